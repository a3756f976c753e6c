/- Printed functions, merged. -/
import Derived.Test.YtjmomhicemjilaaDoorZB64TellsM0
import Derived.Test.YtjmomhicemjilaaDoorZB64TellsBDecode
import Derived.Test.YtjmomhicemjilaaDoorZB64TellsBEncode
namespace Go.Proofs.YtjmomhicemjilaaDoor.P
open Go.RowKit Go.Proofs.YtjmomhicemjilaaDoorW.PrintWords Go.Proofs.YtjmomhicemjilaaDoorW.PrintLast Go.Proofs.YtjmomhicemjilaaDoorW.PrintMore
attribute [local go_sem] max2_int min2_int max_two min_two max_three min_three max_four min_four   -- for this text's walks alone
set_option linter.unusedVariables false
set_option linter.unusedSimpArgs false
def armadalaw13_live.f  : Option (Bool) := (b64_Decode.f (⟨#[90, 109, 57, 118, 89, 103, 61, 61]⟩ : ByteArray)).bind fun bt103 => ((b64_Decode.f (⟨#[90, 109, 57, 118, 89, 104, 61, 61]⟩ : ByteArray)).bind fun bt105 => ((b64_Encode.f (⟨#[]⟩ : ByteArray)).bind fun t107 => (if t107.toList = ([] : List UInt8) then ((b64_Encode.f (⟨#[102]⟩ : ByteArray)).bind fun t108 => (if t108.toList = ([90, 103, 61, 61] : List UInt8) then ((b64_Encode.f (⟨#[102, 111]⟩ : ByteArray)).bind fun t109 => (if t109.toList = ([90, 109, 56, 61] : List UInt8) then ((b64_Encode.f (⟨#[102, 111, 111, 98, 97, 114]⟩ : ByteArray)).bind fun t110 => (if t110.toList = ([90, 109, 57, 118, 89, 109, 70, 121] : List UInt8) then ((b64_Encode.f (⟨#[251, 255]⟩ : ByteArray)).bind fun t111 => (if t111.toList = ([43, 47, 56, 61] : List UInt8) then (if bt103.1.toList = ([102, 111, 111, 98] : List UInt8) then (if bt103.2 = true then (if bt105.2 = true then (some false) else ((b64_Size.f 4).bind fun t112 => (if t112 = 8 then ((b64_Size.f (-1)).bind fun t113 => (some (t113 == (-1)))) else (some false)))) else (some false)) else (some false)) else (some false))) else (some false))) else (some false))) else (some false))) else (some false))))
set_option maxHeartbeats 8000000 in
set_option maxRecDepth 100000 in
theorem armadalaw13_live.calls  (r : Bool) (w : World) (h : armadalaw13_live.f  = some r) (hT_ : r = true := by rfl) :
    Calls Tryd.prog 7 #[] w fun e w' => e = .returned (.bool r) ∧ Below w.heap.size w w' := by
  subst hT_
  have HB := Aside0.mk (Below.refl w.heap.size w)
  have H : ((b64_Decode.f (⟨#[90, 109, 57, 118, 89, 103, 61, 61]⟩ : ByteArray)).bind fun bt103 => ((b64_Decode.f (⟨#[90, 109, 57, 118, 89, 104, 61, 61]⟩ : ByteArray)).bind fun bt105 => ((b64_Encode.f (⟨#[]⟩ : ByteArray)).bind fun t107 => (if t107.toList = ([] : List UInt8) then ((b64_Encode.f (⟨#[102]⟩ : ByteArray)).bind fun t108 => (if t108.toList = ([90, 103, 61, 61] : List UInt8) then ((b64_Encode.f (⟨#[102, 111]⟩ : ByteArray)).bind fun t109 => (if t109.toList = ([90, 109, 56, 61] : List UInt8) then ((b64_Encode.f (⟨#[102, 111, 111, 98, 97, 114]⟩ : ByteArray)).bind fun t110 => (if t110.toList = ([90, 109, 57, 118, 89, 109, 70, 121] : List UInt8) then ((b64_Encode.f (⟨#[251, 255]⟩ : ByteArray)).bind fun t111 => (if t111.toList = ([43, 47, 56, 61] : List UInt8) then (if bt103.1.toList = ([102, 111, 111, 98] : List UInt8) then (if bt103.2 = true then (if bt105.2 = true then (some false) else ((b64_Size.f 4).bind fun t112 => (if t112 = 8 then ((b64_Size.f (-1)).bind fun t113 => (some (t113 == (-1)))) else (some false)))) else (some false)) else (some false)) else (some false))) else (some false))) else (some false))) else (some false))) else (some false))))) = some true := h
  clear h
  replace H := Option.bind_eq_some_iff.mp H
  obtain ⟨⟨t103, t104⟩, A10, H⟩ := H
  replace H : ((b64_Decode.f (⟨#[90, 109, 57, 118, 89, 104, 61, 61]⟩ : ByteArray)).bind fun bt105 => ((b64_Encode.f (⟨#[]⟩ : ByteArray)).bind fun t107 => (if t107.toList = ([] : List UInt8) then ((b64_Encode.f (⟨#[102]⟩ : ByteArray)).bind fun t108 => (if t108.toList = ([90, 103, 61, 61] : List UInt8) then ((b64_Encode.f (⟨#[102, 111]⟩ : ByteArray)).bind fun t109 => (if t109.toList = ([90, 109, 56, 61] : List UInt8) then ((b64_Encode.f (⟨#[102, 111, 111, 98, 97, 114]⟩ : ByteArray)).bind fun t110 => (if t110.toList = ([90, 109, 57, 118, 89, 109, 70, 121] : List UInt8) then ((b64_Encode.f (⟨#[251, 255]⟩ : ByteArray)).bind fun t111 => (if t111.toList = ([43, 47, 56, 61] : List UInt8) then (if t103.toList = ([102, 111, 111, 98] : List UInt8) then (if t104 = true then (if bt105.2 = true then (some false) else ((b64_Size.f 4).bind fun t112 => (if t112 = 8 then ((b64_Size.f (-1)).bind fun t113 => (some (t113 == (-1)))) else (some false)))) else (some false)) else (some false)) else (some false))) else (some false))) else (some false))) else (some false))) else (some false)))) = some true := H
  have A1 := Aside0.mk A10
  clear A10
  replace H := Option.bind_eq_some_iff.mp H
  obtain ⟨⟨t105, t106⟩, A20, H⟩ := H
  replace H : ((b64_Encode.f (⟨#[]⟩ : ByteArray)).bind fun t107 => (if t107.toList = ([] : List UInt8) then ((b64_Encode.f (⟨#[102]⟩ : ByteArray)).bind fun t108 => (if t108.toList = ([90, 103, 61, 61] : List UInt8) then ((b64_Encode.f (⟨#[102, 111]⟩ : ByteArray)).bind fun t109 => (if t109.toList = ([90, 109, 56, 61] : List UInt8) then ((b64_Encode.f (⟨#[102, 111, 111, 98, 97, 114]⟩ : ByteArray)).bind fun t110 => (if t110.toList = ([90, 109, 57, 118, 89, 109, 70, 121] : List UInt8) then ((b64_Encode.f (⟨#[251, 255]⟩ : ByteArray)).bind fun t111 => (if t111.toList = ([43, 47, 56, 61] : List UInt8) then (if t103.toList = ([102, 111, 111, 98] : List UInt8) then (if t104 = true then (if t106 = true then (some false) else ((b64_Size.f 4).bind fun t112 => (if t112 = 8 then ((b64_Size.f (-1)).bind fun t113 => (some (t113 == (-1)))) else (some false)))) else (some false)) else (some false)) else (some false))) else (some false))) else (some false))) else (some false))) else (some false))) = some true := H
  have A2 := Aside0.mk A20
  clear A20
  replace H := Option.bind_eq_some_iff.mp H
  obtain ⟨t107, A30, H⟩ := H
  replace H : (if t107.toList = ([] : List UInt8) then ((b64_Encode.f (⟨#[102]⟩ : ByteArray)).bind fun t108 => (if t108.toList = ([90, 103, 61, 61] : List UInt8) then ((b64_Encode.f (⟨#[102, 111]⟩ : ByteArray)).bind fun t109 => (if t109.toList = ([90, 109, 56, 61] : List UInt8) then ((b64_Encode.f (⟨#[102, 111, 111, 98, 97, 114]⟩ : ByteArray)).bind fun t110 => (if t110.toList = ([90, 109, 57, 118, 89, 109, 70, 121] : List UInt8) then ((b64_Encode.f (⟨#[251, 255]⟩ : ByteArray)).bind fun t111 => (if t111.toList = ([43, 47, 56, 61] : List UInt8) then (if t103.toList = ([102, 111, 111, 98] : List UInt8) then (if t104 = true then (if t106 = true then (some false) else ((b64_Size.f 4).bind fun t112 => (if t112 = 8 then ((b64_Size.f (-1)).bind fun t113 => (some (t113 == (-1)))) else (some false)))) else (some false)) else (some false)) else (some false))) else (some false))) else (some false))) else (some false))) else (some false)) = some true := H
  have A3 := Aside0.mk A30
  clear A30
  by_cases c4 : t107.toList = ([] : List UInt8)
  · rw [if_pos c4] at H
    have c4b0 : (t107.toList == ([] : List UInt8)) = true := beq_iff_eq.mpr c4
    have c4b1 : (t107.toList != ([] : List UInt8)) = false := bne_eq_false_iff_eq.mpr c4
    clear c4
    replace H := Option.bind_eq_some_iff.mp H
    obtain ⟨t108, A50, H⟩ := H
    replace H : (if t108.toList = ([90, 103, 61, 61] : List UInt8) then ((b64_Encode.f (⟨#[102, 111]⟩ : ByteArray)).bind fun t109 => (if t109.toList = ([90, 109, 56, 61] : List UInt8) then ((b64_Encode.f (⟨#[102, 111, 111, 98, 97, 114]⟩ : ByteArray)).bind fun t110 => (if t110.toList = ([90, 109, 57, 118, 89, 109, 70, 121] : List UInt8) then ((b64_Encode.f (⟨#[251, 255]⟩ : ByteArray)).bind fun t111 => (if t111.toList = ([43, 47, 56, 61] : List UInt8) then (if t103.toList = ([102, 111, 111, 98] : List UInt8) then (if t104 = true then (if t106 = true then (some false) else ((b64_Size.f 4).bind fun t112 => (if t112 = 8 then ((b64_Size.f (-1)).bind fun t113 => (some (t113 == (-1)))) else (some false)))) else (some false)) else (some false)) else (some false))) else (some false))) else (some false))) else (some false)) = some true := H
    have A5 := Aside0.mk A50
    clear A50
    by_cases c6 : t108.toList = ([90, 103, 61, 61] : List UInt8)
    · rw [if_pos c6] at H
      have c6b0 : (t108.toList == ([90, 103, 61, 61] : List UInt8)) = true := beq_iff_eq.mpr c6
      have c6b1 : (t108.toList != ([90, 103, 61, 61] : List UInt8)) = false := bne_eq_false_iff_eq.mpr c6
      clear c6
      replace H := Option.bind_eq_some_iff.mp H
      obtain ⟨t109, A70, H⟩ := H
      replace H : (if t109.toList = ([90, 109, 56, 61] : List UInt8) then ((b64_Encode.f (⟨#[102, 111, 111, 98, 97, 114]⟩ : ByteArray)).bind fun t110 => (if t110.toList = ([90, 109, 57, 118, 89, 109, 70, 121] : List UInt8) then ((b64_Encode.f (⟨#[251, 255]⟩ : ByteArray)).bind fun t111 => (if t111.toList = ([43, 47, 56, 61] : List UInt8) then (if t103.toList = ([102, 111, 111, 98] : List UInt8) then (if t104 = true then (if t106 = true then (some false) else ((b64_Size.f 4).bind fun t112 => (if t112 = 8 then ((b64_Size.f (-1)).bind fun t113 => (some (t113 == (-1)))) else (some false)))) else (some false)) else (some false)) else (some false))) else (some false))) else (some false)) = some true := H
      have A7 := Aside0.mk A70
      clear A70
      by_cases c8 : t109.toList = ([90, 109, 56, 61] : List UInt8)
      · rw [if_pos c8] at H
        have c8b0 : (t109.toList == ([90, 109, 56, 61] : List UInt8)) = true := beq_iff_eq.mpr c8
        have c8b1 : (t109.toList != ([90, 109, 56, 61] : List UInt8)) = false := bne_eq_false_iff_eq.mpr c8
        clear c8
        replace H := Option.bind_eq_some_iff.mp H
        obtain ⟨t110, A90, H⟩ := H
        replace H : (if t110.toList = ([90, 109, 57, 118, 89, 109, 70, 121] : List UInt8) then ((b64_Encode.f (⟨#[251, 255]⟩ : ByteArray)).bind fun t111 => (if t111.toList = ([43, 47, 56, 61] : List UInt8) then (if t103.toList = ([102, 111, 111, 98] : List UInt8) then (if t104 = true then (if t106 = true then (some false) else ((b64_Size.f 4).bind fun t112 => (if t112 = 8 then ((b64_Size.f (-1)).bind fun t113 => (some (t113 == (-1)))) else (some false)))) else (some false)) else (some false)) else (some false))) else (some false)) = some true := H
        have A9 := Aside0.mk A90
        clear A90
        by_cases c10 : t110.toList = ([90, 109, 57, 118, 89, 109, 70, 121] : List UInt8)
        · rw [if_pos c10] at H
          have c10b0 : (t110.toList == ([90, 109, 57, 118, 89, 109, 70, 121] : List UInt8)) = true := beq_iff_eq.mpr c10
          have c10b1 : (t110.toList != ([90, 109, 57, 118, 89, 109, 70, 121] : List UInt8)) = false := bne_eq_false_iff_eq.mpr c10
          clear c10
          replace H := Option.bind_eq_some_iff.mp H
          obtain ⟨t111, A110, H⟩ := H
          replace H : (if t111.toList = ([43, 47, 56, 61] : List UInt8) then (if t103.toList = ([102, 111, 111, 98] : List UInt8) then (if t104 = true then (if t106 = true then (some false) else ((b64_Size.f 4).bind fun t112 => (if t112 = 8 then ((b64_Size.f (-1)).bind fun t113 => (some (t113 == (-1)))) else (some false)))) else (some false)) else (some false)) else (some false)) = some true := H
          have A11 := Aside0.mk A110
          clear A110
          by_cases c12 : t111.toList = ([43, 47, 56, 61] : List UInt8)
          · rw [if_pos c12] at H
            have c12b0 : (t111.toList == ([43, 47, 56, 61] : List UInt8)) = true := beq_iff_eq.mpr c12
            have c12b1 : (t111.toList != ([43, 47, 56, 61] : List UInt8)) = false := bne_eq_false_iff_eq.mpr c12
            clear c12
            by_cases c13 : t103.toList = ([102, 111, 111, 98] : List UInt8)
            · rw [if_pos c13] at H
              have c13b0 : (t103.toList == ([102, 111, 111, 98] : List UInt8)) = true := beq_iff_eq.mpr c13
              have c13b1 : (t103.toList != ([102, 111, 111, 98] : List UInt8)) = false := bne_eq_false_iff_eq.mpr c13
              clear c13
              by_cases c14 : t104 = true
              · subst c14
                have H1 : (if t106 = true then (some false) else ((b64_Size.f 4).bind fun t112 => (if t112 = 8 then ((b64_Size.f (-1)).bind fun t113 => (some (t113 == (-1)))) else (some false)))) = some true := by rw [if_pos rfl] at H; exact H
                clear H
                have H := H1
                clear H1
                by_cases c15 : t106 = true
                · subst c15
                  have H1 : (some false) = some true := by rw [if_pos rfl] at H; exact H
                  clear H
                  have H := H1
                  clear H1
                  exact absurd H (by simp)
                · replace c15 := Bool.eq_false_iff.mpr c15
                  subst c15
                  have H1 : ((b64_Size.f 4).bind fun t112 => (if t112 = 8 then ((b64_Size.f (-1)).bind fun t113 => (some (t113 == (-1)))) else (some false))) = some true := by rw [if_neg (show ¬ (false = true) by decide)] at H; exact H
                  clear H
                  have H := H1
                  clear H1
                  replace H := Option.bind_eq_some_iff.mp H
                  obtain ⟨t112, A160, H⟩ := H
                  replace H : (if t112 = 8 then ((b64_Size.f (-1)).bind fun t113 => (some (t113 == (-1)))) else (some false)) = some true := H
                  have A16 := Aside0.mk A160
                  clear A160
                  by_cases c17 : t112 = 8
                  · rw [if_pos c17] at H
                    have c17b0 : (t112 == 8) = true := beq_iff_eq.mpr c17
                    have c17b1 : (t112 != 8) = false := bne_eq_false_iff_eq.mpr c17
                    clear c17
                    replace H := Option.bind_eq_some_iff.mp H
                    obtain ⟨t113, A180, H⟩ := H
                    replace H : (some (t113 == (-1))) = some true := H
                    have A18 := Aside0.mk A180
                    clear A180
                    have hret_ := Option.some.inj H
                    clear H
                    go_enter Tryd.func7, Tryd.ntmps7
                    go_wp2_with (first | ((with_reducible refine gate_callee (f := 8) rfl ?_); refine goesL_ (some 6) rfl rfl Tryd.func8 (by kernel_rfl) rfl #[.string (⟨#[90, 109, 57, 118, 89, 103, 61, 61]⟩ : ByteArray)] rfl (by (try simp only [List.map_toArray, List.map_cons, List.map_nil]); first | done | rfl | (simp only [List.length_drop, List.length_take]; rfl)) ?_; (with_reducible refine (b64_Decode.calls (⟨#[90, 109, 57, 118, 89, 103, 61, 61]⟩ : ByteArray) t103 true _ A1.out).mono ?_); rintro e w19 ⟨rfl, hb⟩; refine ⟨_, rfl, ?_⟩; have n0_ := Aside0.mk (below_step (by repeat (first | (with_reducible first | exact HB.out | apply below_alloc | apply pw_below_drewN | apply below_drew1) | exact HB.out)) hb); clear HB; have HB := n0_; clear n0_; (try clear hb); (try clear hb2); (try clear hk); (try clear hi)) | ((with_reducible refine gate_callee (f := 8) rfl ?_); refine goesL_ (some 10) rfl rfl Tryd.func8 (by kernel_rfl) rfl #[.string (⟨#[90, 109, 57, 118, 89, 104, 61, 61]⟩ : ByteArray)] rfl (by (try simp only [List.map_toArray, List.map_cons, List.map_nil]); first | done | rfl | (simp only [List.length_drop, List.length_take]; rfl)) ?_; (with_reducible refine (b64_Decode.calls (⟨#[90, 109, 57, 118, 89, 104, 61, 61]⟩ : ByteArray) t105 false _ A2.out).mono ?_); rintro e w20 ⟨rfl, hb⟩; refine ⟨_, rfl, ?_⟩; have n0_ := Aside0.mk (below_step (by repeat (first | (with_reducible first | exact HB.out | apply below_alloc | apply pw_below_drewN | apply below_drew1) | exact HB.out)) hb); clear HB; have HB := n0_; clear n0_; (try clear hb); (try clear hb2); (try clear hk); (try clear hi)) | ((with_reducible refine gate_callee (f := 10) rfl ?_); refine goesL_ (some 13) rfl rfl Tryd.func10 (by kernel_rfl) rfl #[.string (⟨#[]⟩ : ByteArray)] rfl (by (try simp only [List.map_toArray, List.map_cons, List.map_nil]); first | done | rfl | (simp only [List.length_drop, List.length_take]; rfl)) ?_; (with_reducible refine (b64_Encode.calls (⟨#[]⟩ : ByteArray) t107 _ A3.out).mono ?_); rintro e w21 ⟨rfl, hb⟩; refine ⟨_, rfl, ?_⟩; have n0_ := Aside0.mk (below_step (by repeat (first | (with_reducible first | exact HB.out | apply below_alloc | apply pw_below_drewN | apply below_drew1) | exact HB.out)) hb); clear HB; have HB := n0_; clear n0_; (try clear hb); (try clear hb2); (try clear hk); (try clear hi)) | (go_at_call 10; (with_reducible refine (b64_Encode.calls (⟨#[102]⟩ : ByteArray) t108 _ A5.out).mono ?_); rintro e w22 ⟨rfl, hb⟩; have n0_ := Aside0.mk (below_step (by repeat (first | (with_reducible first | exact HB.out | apply below_alloc | apply pw_below_drewN | apply below_drew1) | exact HB.out)) hb); clear HB; have HB := n0_; clear n0_; (try clear hb); (try clear hb2); (try clear hk); (try clear hi)) | (go_at_call 10; (with_reducible refine (b64_Encode.calls (⟨#[102, 111]⟩ : ByteArray) t109 _ A7.out).mono ?_); rintro e w23 ⟨rfl, hb⟩; have n0_ := Aside0.mk (below_step (by repeat (first | (with_reducible first | exact HB.out | apply below_alloc | apply pw_below_drewN | apply below_drew1) | exact HB.out)) hb); clear HB; have HB := n0_; clear n0_; (try clear hb); (try clear hb2); (try clear hk); (try clear hi)) | (go_at_call 10; (with_reducible refine (b64_Encode.calls (⟨#[102, 111, 111, 98, 97, 114]⟩ : ByteArray) t110 _ A9.out).mono ?_); rintro e w24 ⟨rfl, hb⟩; have n0_ := Aside0.mk (below_step (by repeat (first | (with_reducible first | exact HB.out | apply below_alloc | apply pw_below_drewN | apply below_drew1) | exact HB.out)) hb); clear HB; have HB := n0_; clear n0_; (try clear hb); (try clear hb2); (try clear hk); (try clear hi)) | (go_at_call 10; (with_reducible refine (b64_Encode.calls (⟨#[251, 255]⟩ : ByteArray) t111 _ A11.out).mono ?_); rintro e w25 ⟨rfl, hb⟩; have n0_ := Aside0.mk (below_step (by repeat (first | (with_reducible first | exact HB.out | apply below_alloc | apply pw_below_drewN | apply below_drew1) | exact HB.out)) hb); clear HB; have HB := n0_; clear n0_; (try clear hb); (try clear hb2); (try clear hk); (try clear hi)) | (go_at_call 12; (with_reducible refine (b64_Size.calls 4 t112 _ A16.out).mono ?_); rintro e w' ⟨rfl, ⟨nd, rfl⟩⟩) | (go_at_call 12; (with_reducible refine (b64_Size.calls (-1) t113 _ A18.out).mono ?_); rintro e w' ⟨rfl, ⟨nd, rfl⟩⟩))
                    go_ret
                    exact ⟨by first | rfl | (simp [errW_none, errW_some] <;> rfl) | (simp [*, errW_none, errW_some] <;> rfl), by repeat (first | (with_reducible first | exact HB.out | apply below_alloc | apply pw_below_drewN | apply below_drew1) | exact HB.out)⟩
                  · rw [if_neg c17] at H
                    have c17b0 : (t112 == 8) = false := beq_eq_false_iff_ne.mpr c17
                    have c17b1 : (t112 != 8) = true := bne_iff_ne.mpr c17
                    exact absurd H (by simp)
              · replace c14 := Bool.eq_false_iff.mpr c14
                subst c14
                have H1 : (some false) = some true := by rw [if_neg (show ¬ (false = true) by decide)] at H; exact H
                clear H
                have H := H1
                clear H1
                exact absurd H (by simp)
            · rw [if_neg c13] at H
              have c13b0 : (t103.toList == ([102, 111, 111, 98] : List UInt8)) = false := beq_eq_false_iff_ne.mpr c13
              have c13b1 : (t103.toList != ([102, 111, 111, 98] : List UInt8)) = true := bne_iff_ne.mpr c13
              exact absurd H (by simp)
          · rw [if_neg c12] at H
            have c12b0 : (t111.toList == ([43, 47, 56, 61] : List UInt8)) = false := beq_eq_false_iff_ne.mpr c12
            have c12b1 : (t111.toList != ([43, 47, 56, 61] : List UInt8)) = true := bne_iff_ne.mpr c12
            exact absurd H (by simp)
        · rw [if_neg c10] at H
          have c10b0 : (t110.toList == ([90, 109, 57, 118, 89, 109, 70, 121] : List UInt8)) = false := beq_eq_false_iff_ne.mpr c10
          have c10b1 : (t110.toList != ([90, 109, 57, 118, 89, 109, 70, 121] : List UInt8)) = true := bne_iff_ne.mpr c10
          exact absurd H (by simp)
      · rw [if_neg c8] at H
        have c8b0 : (t109.toList == ([90, 109, 56, 61] : List UInt8)) = false := beq_eq_false_iff_ne.mpr c8
        have c8b1 : (t109.toList != ([90, 109, 56, 61] : List UInt8)) = true := bne_iff_ne.mpr c8
        exact absurd H (by simp)
    · rw [if_neg c6] at H
      have c6b0 : (t108.toList == ([90, 103, 61, 61] : List UInt8)) = false := beq_eq_false_iff_ne.mpr c6
      have c6b1 : (t108.toList != ([90, 103, 61, 61] : List UInt8)) = true := bne_iff_ne.mpr c6
      exact absurd H (by simp)
  · rw [if_neg c4] at H
    have c4b0 : (t107.toList == ([] : List UInt8)) = false := beq_eq_false_iff_ne.mpr c4
    have c4b1 : (t107.toList != ([] : List UInt8)) = true := bne_iff_ne.mpr c4
    exact absurd H (by simp)
def armadalaw13_B64Tells.j0 : Nat → ByteArray → ByteArray → Int → Bool → Option (Bool)
  | 0, _, _, _, _ => none
  | k + 1, x0, x1, x2, x18 => if x18 = true then ((armadalaw13_live.f).bind fun t132 => (some t132)) else ((b64_Decode.f x1).bind fun bt133 => ((armadaref13_Decode.f k x1).bind fun bt135 => ((b64_Encode.f x0).bind fun t137 => ((armadaref13_Encode.f k x0).bind fun t138 => (if t137.toList = t138.toList then (if bt133.1.toList = bt135.1.toList then (if (bt133.2 == bt135.2) = true then ((b64_Size.f x2).bind fun t139 => ((armadaref13_Size.f x2).bind fun t140 => (if t139 = t140 then ((armadalaw13_live.f).bind fun t141 => (some t141)) else (some false)))) else (some false)) else (some false)) else (some false))))))
def armadalaw13_B64Tells.f (k : Nat) (a0 : ByteArray) (a1 : ByteArray) (a2 : Int) : Option (Bool) := if (a0.size : Int) > 4000 then (armadalaw13_B64Tells.j0 k a0 a1 a2 true) else (armadalaw13_B64Tells.j0 k a0 a1 a2 (decide ((a1.size : Int) > 4000)))
set_option maxHeartbeats 8000000 in
set_option maxRecDepth 100000 in
theorem armadalaw13_B64Tells.calls (k : Nat) (a0 : ByteArray) (a1 : ByteArray) (a2 : Int) (r : Bool) (w : World) (h : armadalaw13_B64Tells.f k a0 a1 a2 = some r) (hT_ : r = true := by rfl) :
    Calls Tryd.prog 3 #[.string a0, .string a1, .int .i64 a2] w fun e w' => e = .returned (.bool r) ∧ Below w.heap.size w w' := by
  subst hT_
  have HB := Aside0.mk (Below.refl w.heap.size w)
  have H : (if (a0.size : Int) > 4000 then (armadalaw13_B64Tells.j0 k a0 a1 a2 true) else (armadalaw13_B64Tells.j0 k a0 a1 a2 (decide ((a1.size : Int) > 4000)))) = some true := h
  clear h
  have HC4 := Aside0.mk H
  clear H
  go_enter Tryd.func3, Tryd.ntmps3
  go_upto_region 1 with (fail)
  go_cut [18] (fun v18 wc => ∃ (kq : Nat) (x18_3 : Bool), v18 = .bool x18_3 ∧ Aside0 (armadalaw13_B64Tells.j0 kq a0 a1 a2 x18_3 = some true) ∧ Aside0 (kq ≤ k) ∧ Aside0 (Below w.heap.size w wc))
  case first =>
    have H := HC4.out
    clear HC4
    by_cases c5 : (a0.size : Int) > 4000
    · rw [if_pos c5] at H
      have c5b0 : decide (4000 < (a0.size : Int)) = true := decide_eq_true c5
      have c5b1 : decide (4000 < a0.size) = true := decide_eq_true (by omega)
      clear c5
      (first | rw [c5b0] | (simp only [i64_w, i32_w]; rw [c5b0]) | skip)
      have H' := Aside0.mk H
      clear H
      go_wp2
      go_meet
      case rel => exact ⟨_, (true), (by first | rfl | (simp; done) | (simp [*]; done)), H', ⟨by first | omega | exact Nat.le_refl _⟩, ⟨by repeat (first | (with_reducible first | exact HB.out | apply below_alloc | apply pw_below_drewN | apply below_drew1) | exact HB.out)⟩⟩
    · rw [if_neg c5] at H
      have c5b0 : decide (4000 < (a0.size : Int)) = false := decide_eq_false c5
      have c5b1 : decide (4000 < a0.size) = false := decide_eq_false (by omega)
      clear c5
      (first | rw [c5b0] | (simp only [i64_w, i32_w]; rw [c5b0]) | skip)
      have H' := Aside0.mk H
      clear H
      go_wp2
      go_meet
      case rel => exact ⟨_, (decide ((a1.size : Int) > 4000)), (by first | rfl | (simp; done) | (simp [*]; done)), H', ⟨by first | omega | exact Nat.le_refl _⟩, ⟨by repeat (first | (with_reducible first | exact HB.out | apply below_alloc | apply pw_below_drewN | apply below_drew1) | exact HB.out)⟩⟩
  case rest =>
    clear HC4
    try clear p2
    try clear c3
    try clear c5
    try clear c5b0
    try clear c5b1
    obtain ⟨kq, x18_3, rfl, HA, HJ3, HB⟩ := hcut
    cases kq with
    | zero => exact absurd HA.out (by simp [armadalaw13_B64Tells.j0])
    | succ kj3 =>
      have H := HA.out
      clear HA
      simp only [armadalaw13_B64Tells.j0] at H
      by_cases c6 : x18_3 = true
      · subst c6
        have H1 : ((armadalaw13_live.f).bind fun t132 => (some t132)) = some true := by rw [if_pos rfl] at H; exact H
        clear H
        have H := H1
        clear H1
        replace H := Option.bind_eq_some_iff.mp H
        obtain ⟨t132, A70, H⟩ := H
        replace H : (some t132) = some true := H
        have A7 := Aside0.mk A70
        clear A70
        obtain rfl := Option.some.inj H
        go_wp2_with (first | ((with_reducible refine gate_callee (f := 7) rfl ?_); refine goesL_ (some 19) rfl rfl Tryd.func7 (by kernel_rfl) rfl #[] rfl (by (try simp only [List.map_toArray, List.map_cons, List.map_nil]); first | done | rfl | (simp only [List.length_drop, List.length_take]; rfl)) ?_; (with_reducible refine (armadalaw13_live.calls  true _ A7.out).mono ?_); rintro e w8 ⟨rfl, hb⟩; refine ⟨_, rfl, ?_⟩; have n0_ := Aside0.mk (below_step (by repeat (first | (with_reducible first | exact HB.out | apply below_alloc | apply pw_below_drewN | apply below_drew1) | exact HB.out)) hb); clear HB; have HB := n0_; clear n0_; (try clear hb); (try clear hb2); (try clear hk); (try clear hi)))
        go_ret
        exact ⟨by first | rfl | (simp [errW_none, errW_some] <;> rfl) | (simp [*, errW_none, errW_some] <;> rfl), by repeat (first | (with_reducible first | exact HB.out | apply below_alloc | apply pw_below_drewN | apply below_drew1) | exact HB.out)⟩
      · replace c6 := Bool.eq_false_iff.mpr c6
        subst c6
        have H1 : ((b64_Decode.f a1).bind fun bt133 => ((armadaref13_Decode.f kj3 a1).bind fun bt135 => ((b64_Encode.f a0).bind fun t137 => ((armadaref13_Encode.f kj3 a0).bind fun t138 => (if t137.toList = t138.toList then (if bt133.1.toList = bt135.1.toList then (if (bt133.2 == bt135.2) = true then ((b64_Size.f a2).bind fun t139 => ((armadaref13_Size.f a2).bind fun t140 => (if t139 = t140 then ((armadalaw13_live.f).bind fun t141 => (some t141)) else (some false)))) else (some false)) else (some false)) else (some false)))))) = some true := by rw [if_neg (show ¬ (false = true) by decide)] at H; exact H
        clear H
        have H := H1
        clear H1
        replace H := Option.bind_eq_some_iff.mp H
        obtain ⟨⟨t133, t134⟩, A90, H⟩ := H
        replace H : ((armadaref13_Decode.f kj3 a1).bind fun bt135 => ((b64_Encode.f a0).bind fun t137 => ((armadaref13_Encode.f kj3 a0).bind fun t138 => (if t137.toList = t138.toList then (if t133.toList = bt135.1.toList then (if (t134 == bt135.2) = true then ((b64_Size.f a2).bind fun t139 => ((armadaref13_Size.f a2).bind fun t140 => (if t139 = t140 then ((armadalaw13_live.f).bind fun t141 => (some t141)) else (some false)))) else (some false)) else (some false)) else (some false))))) = some true := H
        have A9 := Aside0.mk A90
        clear A90
        replace H := Option.bind_eq_some_iff.mp H
        obtain ⟨⟨t135, t136⟩, A100, H⟩ := H
        replace H : ((b64_Encode.f a0).bind fun t137 => ((armadaref13_Encode.f kj3 a0).bind fun t138 => (if t137.toList = t138.toList then (if t133.toList = t135.toList then (if (t134 == t136) = true then ((b64_Size.f a2).bind fun t139 => ((armadaref13_Size.f a2).bind fun t140 => (if t139 = t140 then ((armadalaw13_live.f).bind fun t141 => (some t141)) else (some false)))) else (some false)) else (some false)) else (some false)))) = some true := H
        have A10 := Aside0.mk A100
        clear A100
        replace H := Option.bind_eq_some_iff.mp H
        obtain ⟨t137, A110, H⟩ := H
        replace H : ((armadaref13_Encode.f kj3 a0).bind fun t138 => (if t137.toList = t138.toList then (if t133.toList = t135.toList then (if (t134 == t136) = true then ((b64_Size.f a2).bind fun t139 => ((armadaref13_Size.f a2).bind fun t140 => (if t139 = t140 then ((armadalaw13_live.f).bind fun t141 => (some t141)) else (some false)))) else (some false)) else (some false)) else (some false))) = some true := H
        have A11 := Aside0.mk A110
        clear A110
        replace H := Option.bind_eq_some_iff.mp H
        obtain ⟨t138, A120, H⟩ := H
        replace H : (if t137.toList = t138.toList then (if t133.toList = t135.toList then (if (t134 == t136) = true then ((b64_Size.f a2).bind fun t139 => ((armadaref13_Size.f a2).bind fun t140 => (if t139 = t140 then ((armadalaw13_live.f).bind fun t141 => (some t141)) else (some false)))) else (some false)) else (some false)) else (some false)) = some true := H
        have A12 := Aside0.mk A120
        clear A120
        by_cases c13 : t137.toList = t138.toList
        · rw [if_pos c13] at H
          have c13b0 : (t137.toList == t138.toList) = true := beq_iff_eq.mpr c13
          have c13b1 : (t137.toList != t138.toList) = false := bne_eq_false_iff_eq.mpr c13
          clear c13
          by_cases c14 : t133.toList = t135.toList
          · rw [if_pos c14] at H
            have c14b0 : (t133.toList == t135.toList) = true := beq_iff_eq.mpr c14
            have c14b1 : (t133.toList != t135.toList) = false := bne_eq_false_iff_eq.mpr c14
            clear c14
            by_cases c15 : (t134 == t136) = true
            · rw [if_pos c15] at H
              have c15b0 : (t134 == t136) = true := c15
              (try (have c15b1 : decide (t134 = t136) = true := by simpa using c15))
              (try (have c15b2 : (t134 == t136) = true := by simpa using c15))
              clear c15
              replace H := Option.bind_eq_some_iff.mp H
              obtain ⟨t139, A160, H⟩ := H
              replace H : ((armadaref13_Size.f a2).bind fun t140 => (if t139 = t140 then ((armadalaw13_live.f).bind fun t141 => (some t141)) else (some false))) = some true := H
              have A16 := Aside0.mk A160
              clear A160
              replace H := Option.bind_eq_some_iff.mp H
              obtain ⟨t140, A170, H⟩ := H
              replace H : (if t139 = t140 then ((armadalaw13_live.f).bind fun t141 => (some t141)) else (some false)) = some true := H
              have A17 := Aside0.mk A170
              clear A170
              by_cases c18 : t139 = t140
              · rw [if_pos c18] at H
                have c18b0 : (t139 == t140) = true := beq_iff_eq.mpr c18
                have c18b1 : (t139 != t140) = false := bne_eq_false_iff_eq.mpr c18
                clear c18
                replace H := Option.bind_eq_some_iff.mp H
                obtain ⟨t141, A190, H⟩ := H
                replace H : (some t141) = some true := H
                have A19 := Aside0.mk A190
                clear A190
                obtain rfl := Option.some.inj H
                go_wp2_with (first | ((with_reducible refine gate_callee (f := 8) rfl ?_); refine goesL_ (some 22) rfl rfl Tryd.func8 (by kernel_rfl) rfl #[.string a1] rfl (by (try simp only [List.map_toArray, List.map_cons, List.map_nil]); first | done | rfl | (simp only [List.length_drop, List.length_take]; rfl)) ?_; (with_reducible refine (b64_Decode.calls a1 t133 t134 _ A9.out).mono ?_); rintro e w20 ⟨rfl, hb⟩; refine ⟨_, rfl, ?_⟩; have n0_ := Aside0.mk (below_step (by repeat (first | (with_reducible first | exact HB.out | apply below_alloc | apply pw_below_drewN | apply below_drew1) | exact HB.out)) hb); clear HB; have HB := n0_; clear n0_; (try clear hb); (try clear hb2); (try clear hk); (try clear hi)) | ((with_reducible refine gate_callee (f := 9) rfl ?_); refine goesL_ (some 27) rfl rfl Tryd.func9 (by kernel_rfl) rfl #[.string a1] rfl (by (try simp only [List.map_toArray, List.map_cons, List.map_nil]); first | done | rfl | (simp only [List.length_drop, List.length_take]; rfl)) ?_; (with_reducible refine (armadaref13_Decode.calls kj3 a1 t135 t136 _ A10.out).mono ?_); rintro e w21 ⟨rfl, hb⟩; refine ⟨_, rfl, ?_⟩; have n0_ := Aside0.mk (below_step (by repeat (first | (with_reducible first | exact HB.out | apply below_alloc | apply pw_below_drewN | apply below_drew1) | exact HB.out)) hb); clear HB; have HB := n0_; clear n0_; (try clear hb); (try clear hb2); (try clear hk); (try clear hi)) | ((with_reducible refine gate_callee (f := 10) rfl ?_); refine goesL_ (some 31) rfl rfl Tryd.func10 (by kernel_rfl) rfl #[.string a0] rfl (by (try simp only [List.map_toArray, List.map_cons, List.map_nil]); first | done | rfl | (simp only [List.length_drop, List.length_take]; rfl)) ?_; (with_reducible refine (b64_Encode.calls a0 t137 _ A11.out).mono ?_); rintro e w22 ⟨rfl, hb⟩; refine ⟨_, rfl, ?_⟩; have n0_ := Aside0.mk (below_step (by repeat (first | (with_reducible first | exact HB.out | apply below_alloc | apply pw_below_drewN | apply below_drew1) | exact HB.out)) hb); clear HB; have HB := n0_; clear n0_; (try clear hb); (try clear hb2); (try clear hk); (try clear hi)) | ((with_reducible refine gate_callee (f := 11) rfl ?_); refine goesL_ (some 33) rfl rfl Tryd.func11 (by kernel_rfl) rfl #[.string a0] rfl (by (try simp only [List.map_toArray, List.map_cons, List.map_nil]); first | done | rfl | (simp only [List.length_drop, List.length_take]; rfl)) ?_; (with_reducible refine (armadaref13_Encode.calls kj3 a0 t138 _ A12.out).mono ?_); rintro e w23 ⟨rfl, hb⟩; refine ⟨_, rfl, ?_⟩; have n0_ := Aside0.mk (below_step (by repeat (first | (with_reducible first | exact HB.out | apply below_alloc | apply pw_below_drewN | apply below_drew1) | exact HB.out)) hb); clear HB; have HB := n0_; clear n0_; (try clear hb); (try clear hb2); (try clear hk); (try clear hi)) | (go_at_call 12; (with_reducible refine (b64_Size.calls a2 t139 _ A16.out).mono ?_); rintro e w' ⟨rfl, ⟨nd, rfl⟩⟩) | (go_at_call 13; (with_reducible refine (armadaref13_Size.calls a2 t140 _ A17.out).mono ?_); rintro e w' ⟨rfl, ⟨nd, rfl⟩⟩) | (go_at_call 7; (with_reducible refine (armadalaw13_live.calls  true _ A19.out).mono ?_); rintro e w24 ⟨rfl, hb⟩; have n0_ := Aside0.mk (below_step (by repeat (first | (with_reducible first | exact HB.out | apply below_alloc | apply pw_below_drewN | apply below_drew1) | exact HB.out)) hb); clear HB; have HB := n0_; clear n0_; (try clear hb); (try clear hb2); (try clear hk); (try clear hi)))
                go_ret
                exact ⟨by first | rfl | (simp [errW_none, errW_some] <;> rfl) | (simp [*, errW_none, errW_some] <;> rfl), by repeat (first | (with_reducible first | exact HB.out | apply below_alloc | apply pw_below_drewN | apply below_drew1) | exact HB.out)⟩
              · rw [if_neg c18] at H
                have c18b0 : (t139 == t140) = false := beq_eq_false_iff_ne.mpr c18
                have c18b1 : (t139 != t140) = true := bne_iff_ne.mpr c18
                exact absurd H (by simp)
            · rw [if_neg c15] at H
              have c15b0 : (t134 == t136) = false := by simpa using c15
              (try (have c15b1 : decide (t134 = t136) = false := by simpa using c15))
              (try (have c15b2 : (t134 == t136) = false := by simpa using c15))
              (try (have c15b3 : ¬ (t134 = t136) := by simpa using c15))
              clear c15
              exact absurd H (by simp)
          · rw [if_neg c14] at H
            have c14b0 : (t133.toList == t135.toList) = false := beq_eq_false_iff_ne.mpr c14
            have c14b1 : (t133.toList != t135.toList) = true := bne_iff_ne.mpr c14
            exact absurd H (by simp)
        · rw [if_neg c13] at H
          have c13b0 : (t137.toList == t138.toList) = false := beq_eq_false_iff_ne.mpr c13
          have c13b1 : (t137.toList != t138.toList) = true := bne_iff_ne.mpr c13
          exact absurd H (by simp)
/-- THE ONE PURE STATEMENT of armadalaw13_B64Tells: yours. -/
def armadalaw13_B64Tells.Pure : Prop := ∀ (a0 : ByteArray) (a1 : ByteArray) (a2 : Int), a0.size ≤ 140737488351232 → a1.size ≤ 140737488351232 → (Lit.int .i64 a2).wf = true → ∃ k, armadalaw13_B64Tells.f k a0 a1 a2 = some true
end Go.Proofs.YtjmomhicemjilaaDoor.P
