/- Printed functions, merged. -/
import Derived.Test.YtjmomhicemjilaaDoorZB64ApartM0
import Derived.Test.YtjmomhicemjilaaDoorZB64ApartBDecode
import Derived.Test.YtjmomhicemjilaaDoorZB64ApartBEncode
namespace Go.Proofs.YtjmomhicemjilaaDoor.P
open Go.RowKit Go.Proofs.YtjmomhicemjilaaDoorW.PrintWords Go.Proofs.YtjmomhicemjilaaDoorW.PrintLast Go.Proofs.YtjmomhicemjilaaDoorW.PrintMore
attribute [local go_sem] max2_int min2_int max_two min_two max_three min_three max_four min_four   -- for this text's walks alone
set_option linter.unusedVariables false
set_option linter.unusedSimpArgs false
def armadalaw13_live.f  : Option (Bool) := (b64_Decode.f (⟨#[90, 109, 57, 118, 89, 103, 61, 61]⟩ : ByteArray)).bind fun bt103 => ((b64_Decode.f (⟨#[90, 109, 57, 118, 89, 104, 61, 61]⟩ : ByteArray)).bind fun bt105 => ((b64_Encode.f (⟨#[]⟩ : ByteArray)).bind fun t107 => (if t107.toList = ([] : List UInt8) then ((b64_Encode.f (⟨#[102]⟩ : ByteArray)).bind fun t108 => (if t108.toList = ([90, 103, 61, 61] : List UInt8) then ((b64_Encode.f (⟨#[102, 111]⟩ : ByteArray)).bind fun t109 => (if t109.toList = ([90, 109, 56, 61] : List UInt8) then ((b64_Encode.f (⟨#[102, 111, 111, 98, 97, 114]⟩ : ByteArray)).bind fun t110 => (if t110.toList = ([90, 109, 57, 118, 89, 109, 70, 121] : List UInt8) then ((b64_Encode.f (⟨#[251, 255]⟩ : ByteArray)).bind fun t111 => (if t111.toList = ([43, 47, 56, 61] : List UInt8) then (if bt103.1.toList = ([102, 111, 111, 98] : List UInt8) then (if bt103.2 = true then (if bt105.2 = true then (some false) else ((b64_Size.f 4).bind fun t112 => (if t112 = 8 then ((b64_Size.f (-1)).bind fun t113 => (some (t113 == (-1)))) else (some false)))) else (some false)) else (some false)) else (some false))) else (some false))) else (some false))) else (some false))) else (some false))))
set_option maxHeartbeats 8000000 in
set_option maxRecDepth 100000 in
theorem armadalaw13_live.calls  (r : Bool) (w : World) (h : armadalaw13_live.f  = some r) (hT_ : r = true := by rfl) :
    Calls Tryd.prog 7 #[] w fun e w' => e = .returned (.bool r) ∧ Below w.heap.size w w' := by
  subst hT_
  have HB := Aside0.mk (Below.refl w.heap.size w)
  have H : ((b64_Decode.f (⟨#[90, 109, 57, 118, 89, 103, 61, 61]⟩ : ByteArray)).bind fun bt103 => ((b64_Decode.f (⟨#[90, 109, 57, 118, 89, 104, 61, 61]⟩ : ByteArray)).bind fun bt105 => ((b64_Encode.f (⟨#[]⟩ : ByteArray)).bind fun t107 => (if t107.toList = ([] : List UInt8) then ((b64_Encode.f (⟨#[102]⟩ : ByteArray)).bind fun t108 => (if t108.toList = ([90, 103, 61, 61] : List UInt8) then ((b64_Encode.f (⟨#[102, 111]⟩ : ByteArray)).bind fun t109 => (if t109.toList = ([90, 109, 56, 61] : List UInt8) then ((b64_Encode.f (⟨#[102, 111, 111, 98, 97, 114]⟩ : ByteArray)).bind fun t110 => (if t110.toList = ([90, 109, 57, 118, 89, 109, 70, 121] : List UInt8) then ((b64_Encode.f (⟨#[251, 255]⟩ : ByteArray)).bind fun t111 => (if t111.toList = ([43, 47, 56, 61] : List UInt8) then (if bt103.1.toList = ([102, 111, 111, 98] : List UInt8) then (if bt103.2 = true then (if bt105.2 = true then (some false) else ((b64_Size.f 4).bind fun t112 => (if t112 = 8 then ((b64_Size.f (-1)).bind fun t113 => (some (t113 == (-1)))) else (some false)))) else (some false)) else (some false)) else (some false))) else (some false))) else (some false))) else (some false))) else (some false))))) = some true := h
  clear h
  replace H := Option.bind_eq_some_iff.mp H
  obtain ⟨⟨t103, t104⟩, A10, H⟩ := H
  replace H : ((b64_Decode.f (⟨#[90, 109, 57, 118, 89, 104, 61, 61]⟩ : ByteArray)).bind fun bt105 => ((b64_Encode.f (⟨#[]⟩ : ByteArray)).bind fun t107 => (if t107.toList = ([] : List UInt8) then ((b64_Encode.f (⟨#[102]⟩ : ByteArray)).bind fun t108 => (if t108.toList = ([90, 103, 61, 61] : List UInt8) then ((b64_Encode.f (⟨#[102, 111]⟩ : ByteArray)).bind fun t109 => (if t109.toList = ([90, 109, 56, 61] : List UInt8) then ((b64_Encode.f (⟨#[102, 111, 111, 98, 97, 114]⟩ : ByteArray)).bind fun t110 => (if t110.toList = ([90, 109, 57, 118, 89, 109, 70, 121] : List UInt8) then ((b64_Encode.f (⟨#[251, 255]⟩ : ByteArray)).bind fun t111 => (if t111.toList = ([43, 47, 56, 61] : List UInt8) then (if t103.toList = ([102, 111, 111, 98] : List UInt8) then (if t104 = true then (if bt105.2 = true then (some false) else ((b64_Size.f 4).bind fun t112 => (if t112 = 8 then ((b64_Size.f (-1)).bind fun t113 => (some (t113 == (-1)))) else (some false)))) else (some false)) else (some false)) else (some false))) else (some false))) else (some false))) else (some false))) else (some false)))) = some true := H
  have A1 := Aside0.mk A10
  clear A10
  replace H := Option.bind_eq_some_iff.mp H
  obtain ⟨⟨t105, t106⟩, A20, H⟩ := H
  replace H : ((b64_Encode.f (⟨#[]⟩ : ByteArray)).bind fun t107 => (if t107.toList = ([] : List UInt8) then ((b64_Encode.f (⟨#[102]⟩ : ByteArray)).bind fun t108 => (if t108.toList = ([90, 103, 61, 61] : List UInt8) then ((b64_Encode.f (⟨#[102, 111]⟩ : ByteArray)).bind fun t109 => (if t109.toList = ([90, 109, 56, 61] : List UInt8) then ((b64_Encode.f (⟨#[102, 111, 111, 98, 97, 114]⟩ : ByteArray)).bind fun t110 => (if t110.toList = ([90, 109, 57, 118, 89, 109, 70, 121] : List UInt8) then ((b64_Encode.f (⟨#[251, 255]⟩ : ByteArray)).bind fun t111 => (if t111.toList = ([43, 47, 56, 61] : List UInt8) then (if t103.toList = ([102, 111, 111, 98] : List UInt8) then (if t104 = true then (if t106 = true then (some false) else ((b64_Size.f 4).bind fun t112 => (if t112 = 8 then ((b64_Size.f (-1)).bind fun t113 => (some (t113 == (-1)))) else (some false)))) else (some false)) else (some false)) else (some false))) else (some false))) else (some false))) else (some false))) else (some false))) = some true := H
  have A2 := Aside0.mk A20
  clear A20
  replace H := Option.bind_eq_some_iff.mp H
  obtain ⟨t107, A30, H⟩ := H
  replace H : (if t107.toList = ([] : List UInt8) then ((b64_Encode.f (⟨#[102]⟩ : ByteArray)).bind fun t108 => (if t108.toList = ([90, 103, 61, 61] : List UInt8) then ((b64_Encode.f (⟨#[102, 111]⟩ : ByteArray)).bind fun t109 => (if t109.toList = ([90, 109, 56, 61] : List UInt8) then ((b64_Encode.f (⟨#[102, 111, 111, 98, 97, 114]⟩ : ByteArray)).bind fun t110 => (if t110.toList = ([90, 109, 57, 118, 89, 109, 70, 121] : List UInt8) then ((b64_Encode.f (⟨#[251, 255]⟩ : ByteArray)).bind fun t111 => (if t111.toList = ([43, 47, 56, 61] : List UInt8) then (if t103.toList = ([102, 111, 111, 98] : List UInt8) then (if t104 = true then (if t106 = true then (some false) else ((b64_Size.f 4).bind fun t112 => (if t112 = 8 then ((b64_Size.f (-1)).bind fun t113 => (some (t113 == (-1)))) else (some false)))) else (some false)) else (some false)) else (some false))) else (some false))) else (some false))) else (some false))) else (some false)) = some true := H
  have A3 := Aside0.mk A30
  clear A30
  by_cases c4 : t107.toList = ([] : List UInt8)
  · rw [if_pos c4] at H
    have c4b0 : (t107.toList == ([] : List UInt8)) = true := beq_iff_eq.mpr c4
    have c4b1 : (t107.toList != ([] : List UInt8)) = false := bne_eq_false_iff_eq.mpr c4
    clear c4
    replace H := Option.bind_eq_some_iff.mp H
    obtain ⟨t108, A50, H⟩ := H
    replace H : (if t108.toList = ([90, 103, 61, 61] : List UInt8) then ((b64_Encode.f (⟨#[102, 111]⟩ : ByteArray)).bind fun t109 => (if t109.toList = ([90, 109, 56, 61] : List UInt8) then ((b64_Encode.f (⟨#[102, 111, 111, 98, 97, 114]⟩ : ByteArray)).bind fun t110 => (if t110.toList = ([90, 109, 57, 118, 89, 109, 70, 121] : List UInt8) then ((b64_Encode.f (⟨#[251, 255]⟩ : ByteArray)).bind fun t111 => (if t111.toList = ([43, 47, 56, 61] : List UInt8) then (if t103.toList = ([102, 111, 111, 98] : List UInt8) then (if t104 = true then (if t106 = true then (some false) else ((b64_Size.f 4).bind fun t112 => (if t112 = 8 then ((b64_Size.f (-1)).bind fun t113 => (some (t113 == (-1)))) else (some false)))) else (some false)) else (some false)) else (some false))) else (some false))) else (some false))) else (some false)) = some true := H
    have A5 := Aside0.mk A50
    clear A50
    by_cases c6 : t108.toList = ([90, 103, 61, 61] : List UInt8)
    · rw [if_pos c6] at H
      have c6b0 : (t108.toList == ([90, 103, 61, 61] : List UInt8)) = true := beq_iff_eq.mpr c6
      have c6b1 : (t108.toList != ([90, 103, 61, 61] : List UInt8)) = false := bne_eq_false_iff_eq.mpr c6
      clear c6
      replace H := Option.bind_eq_some_iff.mp H
      obtain ⟨t109, A70, H⟩ := H
      replace H : (if t109.toList = ([90, 109, 56, 61] : List UInt8) then ((b64_Encode.f (⟨#[102, 111, 111, 98, 97, 114]⟩ : ByteArray)).bind fun t110 => (if t110.toList = ([90, 109, 57, 118, 89, 109, 70, 121] : List UInt8) then ((b64_Encode.f (⟨#[251, 255]⟩ : ByteArray)).bind fun t111 => (if t111.toList = ([43, 47, 56, 61] : List UInt8) then (if t103.toList = ([102, 111, 111, 98] : List UInt8) then (if t104 = true then (if t106 = true then (some false) else ((b64_Size.f 4).bind fun t112 => (if t112 = 8 then ((b64_Size.f (-1)).bind fun t113 => (some (t113 == (-1)))) else (some false)))) else (some false)) else (some false)) else (some false))) else (some false))) else (some false)) = some true := H
      have A7 := Aside0.mk A70
      clear A70
      by_cases c8 : t109.toList = ([90, 109, 56, 61] : List UInt8)
      · rw [if_pos c8] at H
        have c8b0 : (t109.toList == ([90, 109, 56, 61] : List UInt8)) = true := beq_iff_eq.mpr c8
        have c8b1 : (t109.toList != ([90, 109, 56, 61] : List UInt8)) = false := bne_eq_false_iff_eq.mpr c8
        clear c8
        replace H := Option.bind_eq_some_iff.mp H
        obtain ⟨t110, A90, H⟩ := H
        replace H : (if t110.toList = ([90, 109, 57, 118, 89, 109, 70, 121] : List UInt8) then ((b64_Encode.f (⟨#[251, 255]⟩ : ByteArray)).bind fun t111 => (if t111.toList = ([43, 47, 56, 61] : List UInt8) then (if t103.toList = ([102, 111, 111, 98] : List UInt8) then (if t104 = true then (if t106 = true then (some false) else ((b64_Size.f 4).bind fun t112 => (if t112 = 8 then ((b64_Size.f (-1)).bind fun t113 => (some (t113 == (-1)))) else (some false)))) else (some false)) else (some false)) else (some false))) else (some false)) = some true := H
        have A9 := Aside0.mk A90
        clear A90
        by_cases c10 : t110.toList = ([90, 109, 57, 118, 89, 109, 70, 121] : List UInt8)
        · rw [if_pos c10] at H
          have c10b0 : (t110.toList == ([90, 109, 57, 118, 89, 109, 70, 121] : List UInt8)) = true := beq_iff_eq.mpr c10
          have c10b1 : (t110.toList != ([90, 109, 57, 118, 89, 109, 70, 121] : List UInt8)) = false := bne_eq_false_iff_eq.mpr c10
          clear c10
          replace H := Option.bind_eq_some_iff.mp H
          obtain ⟨t111, A110, H⟩ := H
          replace H : (if t111.toList = ([43, 47, 56, 61] : List UInt8) then (if t103.toList = ([102, 111, 111, 98] : List UInt8) then (if t104 = true then (if t106 = true then (some false) else ((b64_Size.f 4).bind fun t112 => (if t112 = 8 then ((b64_Size.f (-1)).bind fun t113 => (some (t113 == (-1)))) else (some false)))) else (some false)) else (some false)) else (some false)) = some true := H
          have A11 := Aside0.mk A110
          clear A110
          by_cases c12 : t111.toList = ([43, 47, 56, 61] : List UInt8)
          · rw [if_pos c12] at H
            have c12b0 : (t111.toList == ([43, 47, 56, 61] : List UInt8)) = true := beq_iff_eq.mpr c12
            have c12b1 : (t111.toList != ([43, 47, 56, 61] : List UInt8)) = false := bne_eq_false_iff_eq.mpr c12
            clear c12
            by_cases c13 : t103.toList = ([102, 111, 111, 98] : List UInt8)
            · rw [if_pos c13] at H
              have c13b0 : (t103.toList == ([102, 111, 111, 98] : List UInt8)) = true := beq_iff_eq.mpr c13
              have c13b1 : (t103.toList != ([102, 111, 111, 98] : List UInt8)) = false := bne_eq_false_iff_eq.mpr c13
              clear c13
              by_cases c14 : t104 = true
              · subst c14
                have H1 : (if t106 = true then (some false) else ((b64_Size.f 4).bind fun t112 => (if t112 = 8 then ((b64_Size.f (-1)).bind fun t113 => (some (t113 == (-1)))) else (some false)))) = some true := by rw [if_pos rfl] at H; exact H
                clear H
                have H := H1
                clear H1
                by_cases c15 : t106 = true
                · subst c15
                  have H1 : (some false) = some true := by rw [if_pos rfl] at H; exact H
                  clear H
                  have H := H1
                  clear H1
                  exact absurd H (by simp)
                · replace c15 := Bool.eq_false_iff.mpr c15
                  subst c15
                  have H1 : ((b64_Size.f 4).bind fun t112 => (if t112 = 8 then ((b64_Size.f (-1)).bind fun t113 => (some (t113 == (-1)))) else (some false))) = some true := by rw [if_neg (show ¬ (false = true) by decide)] at H; exact H
                  clear H
                  have H := H1
                  clear H1
                  replace H := Option.bind_eq_some_iff.mp H
                  obtain ⟨t112, A160, H⟩ := H
                  replace H : (if t112 = 8 then ((b64_Size.f (-1)).bind fun t113 => (some (t113 == (-1)))) else (some false)) = some true := H
                  have A16 := Aside0.mk A160
                  clear A160
                  by_cases c17 : t112 = 8
                  · rw [if_pos c17] at H
                    have c17b0 : (t112 == 8) = true := beq_iff_eq.mpr c17
                    have c17b1 : (t112 != 8) = false := bne_eq_false_iff_eq.mpr c17
                    clear c17
                    replace H := Option.bind_eq_some_iff.mp H
                    obtain ⟨t113, A180, H⟩ := H
                    replace H : (some (t113 == (-1))) = some true := H
                    have A18 := Aside0.mk A180
                    clear A180
                    have hret_ := Option.some.inj H
                    clear H
                    go_enter Tryd.func7, Tryd.ntmps7
                    go_wp2_with (first | ((with_reducible refine gate_callee (f := 8) rfl ?_); refine goesL_ (some 6) rfl rfl Tryd.func8 (by kernel_rfl) rfl #[.string (⟨#[90, 109, 57, 118, 89, 103, 61, 61]⟩ : ByteArray)] rfl (by (try simp only [List.map_toArray, List.map_cons, List.map_nil]); first | done | rfl | (simp only [List.length_drop, List.length_take]; rfl)) ?_; (with_reducible refine (b64_Decode.calls (⟨#[90, 109, 57, 118, 89, 103, 61, 61]⟩ : ByteArray) t103 true _ A1.out).mono ?_); rintro e w19 ⟨rfl, hb⟩; refine ⟨_, rfl, ?_⟩; have n0_ := Aside0.mk (below_step (by repeat (first | (with_reducible first | exact HB.out | apply below_alloc | apply pw_below_drewN | apply below_drew1) | exact HB.out)) hb); clear HB; have HB := n0_; clear n0_; (try clear hb); (try clear hb2); (try clear hk); (try clear hi)) | ((with_reducible refine gate_callee (f := 8) rfl ?_); refine goesL_ (some 10) rfl rfl Tryd.func8 (by kernel_rfl) rfl #[.string (⟨#[90, 109, 57, 118, 89, 104, 61, 61]⟩ : ByteArray)] rfl (by (try simp only [List.map_toArray, List.map_cons, List.map_nil]); first | done | rfl | (simp only [List.length_drop, List.length_take]; rfl)) ?_; (with_reducible refine (b64_Decode.calls (⟨#[90, 109, 57, 118, 89, 104, 61, 61]⟩ : ByteArray) t105 false _ A2.out).mono ?_); rintro e w20 ⟨rfl, hb⟩; refine ⟨_, rfl, ?_⟩; have n0_ := Aside0.mk (below_step (by repeat (first | (with_reducible first | exact HB.out | apply below_alloc | apply pw_below_drewN | apply below_drew1) | exact HB.out)) hb); clear HB; have HB := n0_; clear n0_; (try clear hb); (try clear hb2); (try clear hk); (try clear hi)) | ((with_reducible refine gate_callee (f := 10) rfl ?_); refine goesL_ (some 13) rfl rfl Tryd.func10 (by kernel_rfl) rfl #[.string (⟨#[]⟩ : ByteArray)] rfl (by (try simp only [List.map_toArray, List.map_cons, List.map_nil]); first | done | rfl | (simp only [List.length_drop, List.length_take]; rfl)) ?_; (with_reducible refine (b64_Encode.calls (⟨#[]⟩ : ByteArray) t107 _ A3.out).mono ?_); rintro e w21 ⟨rfl, hb⟩; refine ⟨_, rfl, ?_⟩; have n0_ := Aside0.mk (below_step (by repeat (first | (with_reducible first | exact HB.out | apply below_alloc | apply pw_below_drewN | apply below_drew1) | exact HB.out)) hb); clear HB; have HB := n0_; clear n0_; (try clear hb); (try clear hb2); (try clear hk); (try clear hi)) | (go_at_call 10; (with_reducible refine (b64_Encode.calls (⟨#[102]⟩ : ByteArray) t108 _ A5.out).mono ?_); rintro e w22 ⟨rfl, hb⟩; have n0_ := Aside0.mk (below_step (by repeat (first | (with_reducible first | exact HB.out | apply below_alloc | apply pw_below_drewN | apply below_drew1) | exact HB.out)) hb); clear HB; have HB := n0_; clear n0_; (try clear hb); (try clear hb2); (try clear hk); (try clear hi)) | (go_at_call 10; (with_reducible refine (b64_Encode.calls (⟨#[102, 111]⟩ : ByteArray) t109 _ A7.out).mono ?_); rintro e w23 ⟨rfl, hb⟩; have n0_ := Aside0.mk (below_step (by repeat (first | (with_reducible first | exact HB.out | apply below_alloc | apply pw_below_drewN | apply below_drew1) | exact HB.out)) hb); clear HB; have HB := n0_; clear n0_; (try clear hb); (try clear hb2); (try clear hk); (try clear hi)) | (go_at_call 10; (with_reducible refine (b64_Encode.calls (⟨#[102, 111, 111, 98, 97, 114]⟩ : ByteArray) t110 _ A9.out).mono ?_); rintro e w24 ⟨rfl, hb⟩; have n0_ := Aside0.mk (below_step (by repeat (first | (with_reducible first | exact HB.out | apply below_alloc | apply pw_below_drewN | apply below_drew1) | exact HB.out)) hb); clear HB; have HB := n0_; clear n0_; (try clear hb); (try clear hb2); (try clear hk); (try clear hi)) | (go_at_call 10; (with_reducible refine (b64_Encode.calls (⟨#[251, 255]⟩ : ByteArray) t111 _ A11.out).mono ?_); rintro e w25 ⟨rfl, hb⟩; have n0_ := Aside0.mk (below_step (by repeat (first | (with_reducible first | exact HB.out | apply below_alloc | apply pw_below_drewN | apply below_drew1) | exact HB.out)) hb); clear HB; have HB := n0_; clear n0_; (try clear hb); (try clear hb2); (try clear hk); (try clear hi)) | (go_at_call 12; (with_reducible refine (b64_Size.calls 4 t112 _ A16.out).mono ?_); rintro e w' ⟨rfl, ⟨nd, rfl⟩⟩) | (go_at_call 12; (with_reducible refine (b64_Size.calls (-1) t113 _ A18.out).mono ?_); rintro e w' ⟨rfl, ⟨nd, rfl⟩⟩))
                    go_ret
                    exact ⟨by first | rfl | (simp [errW_none, errW_some] <;> rfl) | (simp [*, errW_none, errW_some] <;> rfl), by repeat (first | (with_reducible first | exact HB.out | apply below_alloc | apply pw_below_drewN | apply below_drew1) | exact HB.out)⟩
                  · rw [if_neg c17] at H
                    have c17b0 : (t112 == 8) = false := beq_eq_false_iff_ne.mpr c17
                    have c17b1 : (t112 != 8) = true := bne_iff_ne.mpr c17
                    exact absurd H (by simp)
              · replace c14 := Bool.eq_false_iff.mpr c14
                subst c14
                have H1 : (some false) = some true := by rw [if_neg (show ¬ (false = true) by decide)] at H; exact H
                clear H
                have H := H1
                clear H1
                exact absurd H (by simp)
            · rw [if_neg c13] at H
              have c13b0 : (t103.toList == ([102, 111, 111, 98] : List UInt8)) = false := beq_eq_false_iff_ne.mpr c13
              have c13b1 : (t103.toList != ([102, 111, 111, 98] : List UInt8)) = true := bne_iff_ne.mpr c13
              exact absurd H (by simp)
          · rw [if_neg c12] at H
            have c12b0 : (t111.toList == ([43, 47, 56, 61] : List UInt8)) = false := beq_eq_false_iff_ne.mpr c12
            have c12b1 : (t111.toList != ([43, 47, 56, 61] : List UInt8)) = true := bne_iff_ne.mpr c12
            exact absurd H (by simp)
        · rw [if_neg c10] at H
          have c10b0 : (t110.toList == ([90, 109, 57, 118, 89, 109, 70, 121] : List UInt8)) = false := beq_eq_false_iff_ne.mpr c10
          have c10b1 : (t110.toList != ([90, 109, 57, 118, 89, 109, 70, 121] : List UInt8)) = true := bne_iff_ne.mpr c10
          exact absurd H (by simp)
      · rw [if_neg c8] at H
        have c8b0 : (t109.toList == ([90, 109, 56, 61] : List UInt8)) = false := beq_eq_false_iff_ne.mpr c8
        have c8b1 : (t109.toList != ([90, 109, 56, 61] : List UInt8)) = true := bne_iff_ne.mpr c8
        exact absurd H (by simp)
    · rw [if_neg c6] at H
      have c6b0 : (t108.toList == ([90, 103, 61, 61] : List UInt8)) = false := beq_eq_false_iff_ne.mpr c6
      have c6b1 : (t108.toList != ([90, 103, 61, 61] : List UInt8)) = true := bne_iff_ne.mpr c6
      exact absurd H (by simp)
  · rw [if_neg c4] at H
    have c4b0 : (t107.toList == ([] : List UInt8)) = false := beq_eq_false_iff_ne.mpr c4
    have c4b1 : (t107.toList != ([] : List UInt8)) = true := bne_iff_ne.mpr c4
    exact absurd H (by simp)
mutual
def armadalaw13_B64Apart.j0 : Nat → ByteArray → ByteArray → Bool → Option (Bool)
  | 0, _, _, _ => none
  | k + 1, x0, x1, x17 => if x17 = true then ((armadalaw13_live.f).bind fun t154 => (some t154)) else ((b64_Encode.f x0).bind fun t155 => ((b64_Encode.f x1).bind fun t156 => (if ((t155.toList == t156.toList) != (x0.toList == x1.toList)) = true then (armadalaw13_B64Apart.j1 k x0 t155 true) else (armadalaw13_B64Apart.j1 k x0 t155 (((t155.size : Int) % 4) != 0)))))
def armadalaw13_B64Apart.j1 : Nat → ByteArray → ByteArray → Bool → Option (Bool)
  | 0, _, _, _ => none
  | k + 1, x0, x5, x34 => if x34 = true then (some false) else (armadalaw13_B64Apart.l0 k x0 x5 0 0)
def armadalaw13_B64Apart.l0 : Nat → ByteArray → ByteArray → Int → Int → Option (Bool)
  | 0, _, _, _, _ => none
  | k + 1, x0, x5, x6, x7 => if x7 < (x5.size : Int) then (if 0 ≤ x7 then (if (bt x5 x7) = 61 then (armadalaw13_B64Apart.l0 k x0 x5 (wrap64 (x6 + 1)) (wrap64 (x7 + 1))) else (if (bt x5 x7) ≥ 65 then (if (bt x5 x7) ≤ 90 then (if x6 > 0 then (some false) else (armadalaw13_B64Apart.l0 k x0 x5 x6 (wrap64 (x7 + 1)))) else (if (bt x5 x7) ≥ 97 then (if (bt x5 x7) ≤ 122 then (if x6 > 0 then (some false) else (armadalaw13_B64Apart.l0 k x0 x5 x6 (wrap64 (x7 + 1)))) else (if (bt x5 x7) ≥ 48 then (if (bt x5 x7) ≤ 57 then (if x6 > 0 then (some false) else (armadalaw13_B64Apart.l0 k x0 x5 x6 (wrap64 (x7 + 1)))) else (if (bt x5 x7) = 43 then (if x6 > 0 then (some false) else (armadalaw13_B64Apart.l0 k x0 x5 x6 (wrap64 (x7 + 1)))) else (if ((bt x5 x7) = 47) then (if x6 > 0 then (some false) else (armadalaw13_B64Apart.l0 k x0 x5 x6 (wrap64 (x7 + 1)))) else (some false)))) else (if (bt x5 x7) = 43 then (if x6 > 0 then (some false) else (armadalaw13_B64Apart.l0 k x0 x5 x6 (wrap64 (x7 + 1)))) else (if ((bt x5 x7) = 47) then (if x6 > 0 then (some false) else (armadalaw13_B64Apart.l0 k x0 x5 x6 (wrap64 (x7 + 1)))) else (some false))))) else (if (bt x5 x7) ≥ 48 then (if (bt x5 x7) ≤ 57 then (if x6 > 0 then (some false) else (armadalaw13_B64Apart.l0 k x0 x5 x6 (wrap64 (x7 + 1)))) else (if (bt x5 x7) = 43 then (if x6 > 0 then (some false) else (armadalaw13_B64Apart.l0 k x0 x5 x6 (wrap64 (x7 + 1)))) else (if ((bt x5 x7) = 47) then (if x6 > 0 then (some false) else (armadalaw13_B64Apart.l0 k x0 x5 x6 (wrap64 (x7 + 1)))) else (some false)))) else (if (bt x5 x7) = 43 then (if x6 > 0 then (some false) else (armadalaw13_B64Apart.l0 k x0 x5 x6 (wrap64 (x7 + 1)))) else (if ((bt x5 x7) = 47) then (if x6 > 0 then (some false) else (armadalaw13_B64Apart.l0 k x0 x5 x6 (wrap64 (x7 + 1)))) else (some false)))))) else (if (bt x5 x7) ≥ 97 then (if (bt x5 x7) ≤ 122 then (if x6 > 0 then (some false) else (armadalaw13_B64Apart.l0 k x0 x5 x6 (wrap64 (x7 + 1)))) else (if (bt x5 x7) ≥ 48 then (if (bt x5 x7) ≤ 57 then (if x6 > 0 then (some false) else (armadalaw13_B64Apart.l0 k x0 x5 x6 (wrap64 (x7 + 1)))) else (if (bt x5 x7) = 43 then (if x6 > 0 then (some false) else (armadalaw13_B64Apart.l0 k x0 x5 x6 (wrap64 (x7 + 1)))) else (if ((bt x5 x7) = 47) then (if x6 > 0 then (some false) else (armadalaw13_B64Apart.l0 k x0 x5 x6 (wrap64 (x7 + 1)))) else (some false)))) else (if (bt x5 x7) = 43 then (if x6 > 0 then (some false) else (armadalaw13_B64Apart.l0 k x0 x5 x6 (wrap64 (x7 + 1)))) else (if ((bt x5 x7) = 47) then (if x6 > 0 then (some false) else (armadalaw13_B64Apart.l0 k x0 x5 x6 (wrap64 (x7 + 1)))) else (some false))))) else (if (bt x5 x7) ≥ 48 then (if (bt x5 x7) ≤ 57 then (if x6 > 0 then (some false) else (armadalaw13_B64Apart.l0 k x0 x5 x6 (wrap64 (x7 + 1)))) else (if (bt x5 x7) = 43 then (if x6 > 0 then (some false) else (armadalaw13_B64Apart.l0 k x0 x5 x6 (wrap64 (x7 + 1)))) else (if ((bt x5 x7) = 47) then (if x6 > 0 then (some false) else (armadalaw13_B64Apart.l0 k x0 x5 x6 (wrap64 (x7 + 1)))) else (some false)))) else (if (bt x5 x7) = 43 then (if x6 > 0 then (some false) else (armadalaw13_B64Apart.l0 k x0 x5 x6 (wrap64 (x7 + 1)))) else (if ((bt x5 x7) = 47) then (if x6 > 0 then (some false) else (armadalaw13_B64Apart.l0 k x0 x5 x6 (wrap64 (x7 + 1)))) else (some false))))))) else (none)) else (if x6 = ((3 - ((x0.size : Int) % 3)) % 3) then ((armadalaw13_live.f).bind fun t157 => (some t157)) else (some false))
end
def armadalaw13_B64Apart.f (k : Nat) (a0 : ByteArray) (a1 : ByteArray) : Option (Bool) := if (a0.size : Int) > 2000 then (armadalaw13_B64Apart.j0 k a0 a1 true) else (armadalaw13_B64Apart.j0 k a0 a1 (decide ((a1.size : Int) > 2000)))
set_option maxHeartbeats 8000000 in
set_option maxRecDepth 100000 in
theorem armadalaw13_B64Apart.calls (k : Nat) (a0 : ByteArray) (a1 : ByteArray) (r : Bool) (w : World) (h : armadalaw13_B64Apart.f k a0 a1 = some r) (hT_ : r = true := by rfl) :
    Calls Tryd.prog 5 #[.string a0, .string a1] w fun e w' => e = .returned (.bool r) ∧ Below w.heap.size w w' := by
  subst hT_
  have HB := Aside0.mk (Below.refl w.heap.size w)
  have H : (if (a0.size : Int) > 2000 then (armadalaw13_B64Apart.j0 k a0 a1 true) else (armadalaw13_B64Apart.j0 k a0 a1 (decide ((a1.size : Int) > 2000)))) = some true := h
  clear h
  have HC3 := Aside0.mk H
  clear H
  go_enter Tryd.func5, Tryd.ntmps5
  go_upto_region 1 with (fail)
  go_cut [17] (fun v17 wc => ∃ (kq : Nat) (x17_2 : Bool), v17 = .bool x17_2 ∧ Aside0 (armadalaw13_B64Apart.j0 kq a0 a1 x17_2 = some true) ∧ Aside0 (kq ≤ k) ∧ Aside0 (Below w.heap.size w wc))
  case first =>
    have H := HC3.out
    clear HC3
    by_cases c4 : (a0.size : Int) > 2000
    · rw [if_pos c4] at H
      have c4b0 : decide (2000 < (a0.size : Int)) = true := decide_eq_true c4
      have c4b1 : decide (2000 < a0.size) = true := decide_eq_true (by omega)
      clear c4
      (first | rw [c4b0] | (simp only [i64_w, i32_w]; rw [c4b0]) | skip)
      have H' := Aside0.mk H
      clear H
      go_wp2
      go_meet
      case rel => exact ⟨_, (true), (by first | rfl | (simp; done) | (simp [*]; done)), H', ⟨by first | omega | exact Nat.le_refl _⟩, ⟨by repeat (first | (with_reducible first | exact HB.out | apply below_alloc | apply pw_below_drewN | apply below_drew1) | exact HB.out)⟩⟩
    · rw [if_neg c4] at H
      have c4b0 : decide (2000 < (a0.size : Int)) = false := decide_eq_false c4
      have c4b1 : decide (2000 < a0.size) = false := decide_eq_false (by omega)
      clear c4
      (first | rw [c4b0] | (simp only [i64_w, i32_w]; rw [c4b0]) | skip)
      have H' := Aside0.mk H
      clear H
      go_wp2
      go_meet
      case rel => exact ⟨_, (decide ((a1.size : Int) > 2000)), (by first | rfl | (simp; done) | (simp [*]; done)), H', ⟨by first | omega | exact Nat.le_refl _⟩, ⟨by repeat (first | (with_reducible first | exact HB.out | apply below_alloc | apply pw_below_drewN | apply below_drew1) | exact HB.out)⟩⟩
  case rest =>
    clear HC3
    try clear p2
    try clear c4
    try clear c4b0
    try clear c4b1
    obtain ⟨kq, x17_2, rfl, HA, HJ2, HB⟩ := hcut
    cases kq with
    | zero => exact absurd HA.out (by simp [armadalaw13_B64Apart.j0])
    | succ kj2 =>
      have H := HA.out
      clear HA
      simp only [armadalaw13_B64Apart.j0] at H
      by_cases c5 : x17_2 = true
      · subst c5
        have H1 : ((armadalaw13_live.f).bind fun t154 => (some t154)) = some true := by rw [if_pos rfl] at H; exact H
        clear H
        have H := H1
        clear H1
        replace H := Option.bind_eq_some_iff.mp H
        obtain ⟨t154, A60, H⟩ := H
        replace H : (some t154) = some true := H
        have A6 := Aside0.mk A60
        clear A60
        obtain rfl := Option.some.inj H
        go_wp2_with (first | ((with_reducible refine gate_callee (f := 7) rfl ?_); refine goesL_ (some 18) rfl rfl Tryd.func7 (by kernel_rfl) rfl #[] rfl (by (try simp only [List.map_toArray, List.map_cons, List.map_nil]); first | done | rfl | (simp only [List.length_drop, List.length_take]; rfl)) ?_; (with_reducible refine (armadalaw13_live.calls  true _ A6.out).mono ?_); rintro e w7 ⟨rfl, hb⟩; refine ⟨_, rfl, ?_⟩; have n0_ := Aside0.mk (below_step (by repeat (first | (with_reducible first | exact HB.out | apply below_alloc | apply pw_below_drewN | apply below_drew1) | exact HB.out)) hb); clear HB; have HB := n0_; clear n0_; (try clear hb); (try clear hb2); (try clear hk); (try clear hi)))
        go_ret
        exact ⟨by first | rfl | (simp [errW_none, errW_some] <;> rfl) | (simp [*, errW_none, errW_some] <;> rfl), by repeat (first | (with_reducible first | exact HB.out | apply below_alloc | apply pw_below_drewN | apply below_drew1) | exact HB.out)⟩
      · replace c5 := Bool.eq_false_iff.mpr c5
        subst c5
        have H1 : ((b64_Encode.f a0).bind fun t155 => ((b64_Encode.f a1).bind fun t156 => (if ((t155.toList == t156.toList) != (a0.toList == a1.toList)) = true then (armadalaw13_B64Apart.j1 kj2 a0 t155 true) else (armadalaw13_B64Apart.j1 kj2 a0 t155 (((t155.size : Int) % 4) != 0))))) = some true := by rw [if_neg (show ¬ (false = true) by decide)] at H; exact H
        clear H
        have H := H1
        clear H1
        replace H := Option.bind_eq_some_iff.mp H
        obtain ⟨t155, A80, H⟩ := H
        replace H : ((b64_Encode.f a1).bind fun t156 => (if ((t155.toList == t156.toList) != (a0.toList == a1.toList)) = true then (armadalaw13_B64Apart.j1 kj2 a0 t155 true) else (armadalaw13_B64Apart.j1 kj2 a0 t155 (((t155.size : Int) % 4) != 0)))) = some true := H
        have A8 := Aside0.mk A80
        clear A80
        have HC9 := Aside0.mk H
        clear H
        go_upto_region 4 with (first | ((with_reducible refine gate_callee (f := 10) rfl ?_); refine goesL_ (some 20) rfl rfl Tryd.func10 (by kernel_rfl) rfl #[.string a0] rfl (by (try simp only [List.map_toArray, List.map_cons, List.map_nil]); first | done | rfl | (simp only [List.length_drop, List.length_take]; rfl)) ?_; (with_reducible refine (b64_Encode.calls a0 t155 _ A8.out).mono ?_); rintro e w10 ⟨rfl, hb⟩; refine ⟨_, rfl, ?_⟩; have n0_ := Aside0.mk (below_step (by repeat (first | (with_reducible first | exact HB.out | apply below_alloc | apply pw_below_drewN | apply below_drew1) | exact HB.out)) hb); clear HB; have HB := n0_; clear n0_; (try clear hb); (try clear hb2); (try clear hk); (try clear hi)))
        (try simp only [Act.put, List.setIfInBounds_toArray, List.set_cons_zero, List.set_cons_succ])
        go_cut [34] (fun v34 wc => ∃ (kq : Nat) (x34_8 : Bool), v34 = .bool x34_8 ∧ Aside0 (armadalaw13_B64Apart.j1 kq a0 t155 x34_8 = some true) ∧ Aside0 (kq ≤ kj2) ∧ Aside0 (Below w.heap.size w wc))
        case first =>
          have H := HC9.out
          clear HC9
          replace H := Option.bind_eq_some_iff.mp H
          obtain ⟨t156, A110, H⟩ := H
          replace H : (if ((t155.toList == t156.toList) != (a0.toList == a1.toList)) = true then (armadalaw13_B64Apart.j1 kj2 a0 t155 true) else (armadalaw13_B64Apart.j1 kj2 a0 t155 (((t155.size : Int) % 4) != 0))) = some true := H
          have A11 := Aside0.mk A110
          clear A110
          by_cases c12 : ((t155.toList == t156.toList) != (a0.toList == a1.toList)) = true
          · rw [if_pos c12] at H
            have c12b0 : ((t155.toList == t156.toList) != (a0.toList == a1.toList)) = true := c12
            (try (have c12b1 : decide ((t155.toList == t156.toList) = (a0.toList == a1.toList)) = false := by simpa using c12))
            (try (have c12b2 : ((t155.toList == t156.toList) == (a0.toList == a1.toList)) = false := by simpa using c12))
            (try (have c12b3 : ¬ ((t155.toList == t156.toList) = (a0.toList == a1.toList)) := by simpa using c12))
            clear c12
            (first | rw [c12b0] | (simp only [i64_w, i32_w]; rw [c12b0]) | skip)
            have H' := Aside0.mk H
            clear H
            go_wp2_with (first | ((with_reducible refine gate_callee (f := 10) rfl ?_); refine goesL_ (some 23) rfl rfl Tryd.func10 (by kernel_rfl) rfl #[.string a1] rfl (by (try simp only [List.map_toArray, List.map_cons, List.map_nil]); first | done | rfl | (simp only [List.length_drop, List.length_take]; rfl)) ?_; (with_reducible refine (b64_Encode.calls a1 t156 _ A11.out).mono ?_); rintro e w13 ⟨rfl, hb⟩; refine ⟨_, rfl, ?_⟩; have n0_ := Aside0.mk (below_step (by repeat (first | (with_reducible first | exact HB.out | apply below_alloc | apply pw_below_drewN | apply below_drew1) | exact HB.out)) hb); clear HB; have HB := n0_; clear n0_; (try clear hb); (try clear hb2); (try clear hk); (try clear hi)))
            go_meet
            case rel => exact ⟨_, (true), (by first | rfl | (simp; done) | (simp [*]; done)), H', ⟨by have := HJ2.out; first | omega | exact Nat.le_refl _⟩, ⟨by repeat (first | (with_reducible first | exact HB.out | apply below_alloc | apply pw_below_drewN | apply below_drew1) | exact HB.out)⟩⟩
          · rw [if_neg c12] at H
            have c12b0 : ((t155.toList == t156.toList) != (a0.toList == a1.toList)) = false := by simpa using c12
            (try (have c12b1 : decide ((t155.toList == t156.toList) = (a0.toList == a1.toList)) = true := by simpa using c12))
            (try (have c12b2 : ((t155.toList == t156.toList) == (a0.toList == a1.toList)) = true := by simpa using c12))
            clear c12
            (first | rw [c12b0] | (simp only [i64_w, i32_w]; rw [c12b0]) | skip)
            have H' := Aside0.mk H
            clear H
            go_wp2_with (first | ((with_reducible refine gate_callee (f := 10) rfl ?_); refine goesL_ (some 23) rfl rfl Tryd.func10 (by kernel_rfl) rfl #[.string a1] rfl (by (try simp only [List.map_toArray, List.map_cons, List.map_nil]); first | done | rfl | (simp only [List.length_drop, List.length_take]; rfl)) ?_; (with_reducible refine (b64_Encode.calls a1 t156 _ A11.out).mono ?_); rintro e w14 ⟨rfl, hb⟩; refine ⟨_, rfl, ?_⟩; have n0_ := Aside0.mk (below_step (by repeat (first | (with_reducible first | exact HB.out | apply below_alloc | apply pw_below_drewN | apply below_drew1) | exact HB.out)) hb); clear HB; have HB := n0_; clear n0_; (try clear hb); (try clear hb2); (try clear hk); (try clear hi)))
            go_meet
            case rel => exact ⟨_, ((((t155.size : Int) % 4) != 0)), (by first | rfl | (simp; done) | (simp [*]; done)), H', ⟨by have := HJ2.out; first | omega | exact Nat.le_refl _⟩, ⟨by repeat (first | (with_reducible first | exact HB.out | apply below_alloc | apply pw_below_drewN | apply below_drew1) | exact HB.out)⟩⟩
        case rest =>
          clear HC9
          try clear c1
          try clear p2
          try clear c4
          try clear c4b0
          try clear c4b1
          try clear c5
          try clear c7
          try clear c10
          try clear c12
          try clear c12b0
          try clear c12b1
          try clear c12b2
          try clear p2
          obtain ⟨kq, x34_8, rfl, HA, HJ8, HB⟩ := hcut
          cases kq with
          | zero => exact absurd HA.out (by simp [armadalaw13_B64Apart.j1])
          | succ kj8 =>
            have H := HA.out
            clear HA
            simp only [armadalaw13_B64Apart.j1] at H
            by_cases c15 : x34_8 = true
            · subst c15
              have H1 : (some false) = some true := by rw [if_pos rfl] at H; exact H
              clear H
              have H := H1
              clear H1
              exact absurd H (by simp)
            · replace c15 := Bool.eq_false_iff.mpr c15
              subst c15
              have H1 : (armadalaw13_B64Apart.l0 kj8 a0 t155 0 0) = some true := by rw [if_neg (show ¬ (false = true) by decide)] at H; exact H
              clear H
              have H := H1
              clear H1
              have H' := Aside0.mk H
              clear H
              go_wp2
              go_loopg [6, 7] kj8 (fun kq v6 v7 w' => ∃ (x6_3 : Int) (x7_3 : Int), v6 = .int .i64 x6_3 ∧ v7 = .int .i64 x7_3 ∧ Aside0 (armadalaw13_B64Apart.l0 kq a0 t155 x6_3 x7_3 = some true) ∧ Aside0 (kq ≤ kj8) ∧ Aside0 (Below w.heap.size w w'))
              case atStart => exact ⟨(0), (0), (by first | rfl | (simp; done) | (simp [*]; done)), (by first | rfl | (simp; done) | (simp [*]; done)), H', ⟨Nat.le_refl _⟩, ⟨by repeat (first | (with_reducible first | exact HB.out | apply below_alloc | apply pw_below_drewN | apply below_drew1) | exact HB.out)⟩⟩
              case round =>
                clear H'
                try clear c1
                try clear p2
                try clear c4
                try clear c4b0
                try clear c4b1
                try clear c5
                try clear c7
                try clear c10
                try clear c12
                try clear c12b0
                try clear c12b1
                try clear c12b2
                try clear c15
                try clear p2
                obtain ⟨x6_3, x7_3, rfl, rfl, HA, HK3, HB⟩ := hrel
                cases gk with
                | zero => exact absurd HA.out (by simp [armadalaw13_B64Apart.l0])
                | succ k3 =>
                  have H := HA.out
                  clear HA
                  simp only [armadalaw13_B64Apart.l0] at H
                  by_cases c16 : x7_3 < (t155.size : Int)
                  · rw [if_pos c16] at H
                    have c16b0 : decide (x7_3 < (t155.size : Int)) = true := decide_eq_true c16
                    clear c16
                    by_cases c17 : 0 ≤ x7_3
                    · rw [if_pos c17] at H
                      have c17b0 : decide (0 ≤ x7_3) = true := decide_eq_true c17
                      clear c17
                      by_cases c19 : (bt t155 x7_3) = 61
                      · rw [if_pos c19] at H
                        have c19b0 : ((bt t155 x7_3) == 61) = true := beq_iff_eq.mpr c19
                        have c19b1 : ((bt t155 x7_3) != 61) = false := bne_eq_false_iff_eq.mpr c19
                        clear c19
                        have H' := Aside0.mk H
                        clear H
                        have p18 : 0 ≤ (x7_3 : Int) := of_decide_eq_true (by first | (with_reducible assumption) | assumption)
                        have q18 : x7_3 < (t155.size : Int) := of_decide_eq_true (by first | (with_reducible assumption) | assumption)
                        have hx18 := bt_at t155 x7_3
                        replace p18 := eq_true p18
                        replace q18 := eq_true q18
                        go_wp2
                        go_roundg k3
                        case measure => have := HJ2.out; have := HJ8.out; have := HK3.out; omega
                        case rel => exact ⟨(wrap64 (x6_3 + 1)), (wrap64 (x7_3 + 1)), (by first | rfl | (simp; done) | (simp [*]; done)), (by first | rfl | (simp; done) | (simp [*]; done)), H', ⟨by have := HJ2.out; have := HJ8.out; have := HK3.out; omega⟩, ⟨by repeat (first | (with_reducible first | exact HB.out | apply below_alloc | apply pw_below_drewN | apply below_drew1) | exact HB.out)⟩⟩
                      · rw [if_neg c19] at H
                        have c19b0 : ((bt t155 x7_3) == 61) = false := beq_eq_false_iff_ne.mpr c19
                        have c19b1 : ((bt t155 x7_3) != 61) = true := bne_iff_ne.mpr c19
                        by_cases c20 : (bt t155 x7_3) ≥ 65
                        · rw [if_pos c20] at H
                          have c20b0 : decide (65 ≤ (bt t155 x7_3)) = true := decide_eq_true c20
                          clear c20
                          by_cases c21 : (bt t155 x7_3) ≤ 90
                          · rw [if_pos c21] at H
                            have c21b0 : decide ((bt t155 x7_3) ≤ 90) = true := decide_eq_true c21
                            clear c21
                            by_cases c22 : x6_3 > 0
                            · rw [if_pos c22] at H
                              have c22b0 : decide (0 < x6_3) = true := decide_eq_true c22
                              clear c22
                              exact absurd H (by simp)
                            · rw [if_neg c22] at H
                              have c22b0 : decide (0 < x6_3) = false := decide_eq_false c22
                              clear c22
                              have H' := Aside0.mk H
                              clear H
                              have p18 : 0 ≤ (x7_3 : Int) := of_decide_eq_true (by first | (with_reducible assumption) | assumption)
                              have q18 : x7_3 < (t155.size : Int) := of_decide_eq_true (by first | (with_reducible assumption) | assumption)
                              have hx18 := bt_at t155 x7_3
                              replace p18 := eq_true p18
                              replace q18 := eq_true q18
                              go_wp2
                              go_roundg k3
                              case measure => have := HJ2.out; have := HJ8.out; have := HK3.out; omega
                              case rel => exact ⟨(x6_3), (wrap64 (x7_3 + 1)), (by first | rfl | (simp; done) | (simp [*]; done)), (by first | rfl | (simp; done) | (simp [*]; done)), H', ⟨by have := HJ2.out; have := HJ8.out; have := HK3.out; omega⟩, ⟨by repeat (first | (with_reducible first | exact HB.out | apply below_alloc | apply pw_below_drewN | apply below_drew1) | exact HB.out)⟩⟩
                          · rw [if_neg c21] at H
                            have c21b0 : decide ((bt t155 x7_3) ≤ 90) = false := decide_eq_false c21
                            clear c21
                            by_cases c23 : (bt t155 x7_3) ≥ 97
                            · rw [if_pos c23] at H
                              have c23b0 : decide (97 ≤ (bt t155 x7_3)) = true := decide_eq_true c23
                              clear c23
                              by_cases c24 : (bt t155 x7_3) ≤ 122
                              · rw [if_pos c24] at H
                                have c24b0 : decide ((bt t155 x7_3) ≤ 122) = true := decide_eq_true c24
                                clear c24
                                by_cases c25 : x6_3 > 0
                                · rw [if_pos c25] at H
                                  have c25b0 : decide (0 < x6_3) = true := decide_eq_true c25
                                  clear c25
                                  exact absurd H (by simp)
                                · rw [if_neg c25] at H
                                  have c25b0 : decide (0 < x6_3) = false := decide_eq_false c25
                                  clear c25
                                  have H' := Aside0.mk H
                                  clear H
                                  have p18 : 0 ≤ (x7_3 : Int) := of_decide_eq_true (by first | (with_reducible assumption) | assumption)
                                  have q18 : x7_3 < (t155.size : Int) := of_decide_eq_true (by first | (with_reducible assumption) | assumption)
                                  have hx18 := bt_at t155 x7_3
                                  replace p18 := eq_true p18
                                  replace q18 := eq_true q18
                                  go_wp2
                                  go_roundg k3
                                  case measure => have := HJ2.out; have := HJ8.out; have := HK3.out; omega
                                  case rel => exact ⟨(x6_3), (wrap64 (x7_3 + 1)), (by first | rfl | (simp; done) | (simp [*]; done)), (by first | rfl | (simp; done) | (simp [*]; done)), H', ⟨by have := HJ2.out; have := HJ8.out; have := HK3.out; omega⟩, ⟨by repeat (first | (with_reducible first | exact HB.out | apply below_alloc | apply pw_below_drewN | apply below_drew1) | exact HB.out)⟩⟩
                              · rw [if_neg c24] at H
                                have c24b0 : decide ((bt t155 x7_3) ≤ 122) = false := decide_eq_false c24
                                clear c24
                                by_cases c26 : (bt t155 x7_3) ≥ 48
                                · rw [if_pos c26] at H
                                  have c26b0 : decide (48 ≤ (bt t155 x7_3)) = true := decide_eq_true c26
                                  clear c26
                                  by_cases c27 : (bt t155 x7_3) ≤ 57
                                  · rw [if_pos c27] at H
                                    have c27b0 : decide ((bt t155 x7_3) ≤ 57) = true := decide_eq_true c27
                                    clear c27
                                    by_cases c28 : x6_3 > 0
                                    · rw [if_pos c28] at H
                                      have c28b0 : decide (0 < x6_3) = true := decide_eq_true c28
                                      clear c28
                                      exact absurd H (by simp)
                                    · rw [if_neg c28] at H
                                      have c28b0 : decide (0 < x6_3) = false := decide_eq_false c28
                                      clear c28
                                      have H' := Aside0.mk H
                                      clear H
                                      have p18 : 0 ≤ (x7_3 : Int) := of_decide_eq_true (by first | (with_reducible assumption) | assumption)
                                      have q18 : x7_3 < (t155.size : Int) := of_decide_eq_true (by first | (with_reducible assumption) | assumption)
                                      have hx18 := bt_at t155 x7_3
                                      replace p18 := eq_true p18
                                      replace q18 := eq_true q18
                                      go_wp2
                                      go_roundg k3
                                      case measure => have := HJ2.out; have := HJ8.out; have := HK3.out; omega
                                      case rel => exact ⟨(x6_3), (wrap64 (x7_3 + 1)), (by first | rfl | (simp; done) | (simp [*]; done)), (by first | rfl | (simp; done) | (simp [*]; done)), H', ⟨by have := HJ2.out; have := HJ8.out; have := HK3.out; omega⟩, ⟨by repeat (first | (with_reducible first | exact HB.out | apply below_alloc | apply pw_below_drewN | apply below_drew1) | exact HB.out)⟩⟩
                                  · rw [if_neg c27] at H
                                    have c27b0 : decide ((bt t155 x7_3) ≤ 57) = false := decide_eq_false c27
                                    clear c27
                                    by_cases c29 : (bt t155 x7_3) = 43
                                    · rw [if_pos c29] at H
                                      have c29b0 : ((bt t155 x7_3) == 43) = true := beq_iff_eq.mpr c29
                                      have c29b1 : ((bt t155 x7_3) != 43) = false := bne_eq_false_iff_eq.mpr c29
                                      clear c29
                                      by_cases c30 : x6_3 > 0
                                      · rw [if_pos c30] at H
                                        have c30b0 : decide (0 < x6_3) = true := decide_eq_true c30
                                        clear c30
                                        exact absurd H (by simp)
                                      · rw [if_neg c30] at H
                                        have c30b0 : decide (0 < x6_3) = false := decide_eq_false c30
                                        clear c30
                                        have H' := Aside0.mk H
                                        clear H
                                        have p18 : 0 ≤ (x7_3 : Int) := of_decide_eq_true (by first | (with_reducible assumption) | assumption)
                                        have q18 : x7_3 < (t155.size : Int) := of_decide_eq_true (by first | (with_reducible assumption) | assumption)
                                        have hx18 := bt_at t155 x7_3
                                        replace p18 := eq_true p18
                                        replace q18 := eq_true q18
                                        go_wp2
                                        go_roundg k3
                                        case measure => have := HJ2.out; have := HJ8.out; have := HK3.out; omega
                                        case rel => exact ⟨(x6_3), (wrap64 (x7_3 + 1)), (by first | rfl | (simp; done) | (simp [*]; done)), (by first | rfl | (simp; done) | (simp [*]; done)), H', ⟨by have := HJ2.out; have := HJ8.out; have := HK3.out; omega⟩, ⟨by repeat (first | (with_reducible first | exact HB.out | apply below_alloc | apply pw_below_drewN | apply below_drew1) | exact HB.out)⟩⟩
                                    · rw [if_neg c29] at H
                                      have c29b0 : ((bt t155 x7_3) == 43) = false := beq_eq_false_iff_ne.mpr c29
                                      have c29b1 : ((bt t155 x7_3) != 43) = true := bne_iff_ne.mpr c29
                                      by_cases c31 : ((bt t155 x7_3) = 47)
                                      · rw [if_pos c31] at H
                                        have c31b0 : ((bt t155 x7_3) == 47) = true := beq_iff_eq.mpr c31
                                        have c31b1 : ((bt t155 x7_3) != 47) = false := bne_eq_false_iff_eq.mpr c31
                                        clear c31
                                        by_cases c32 : x6_3 > 0
                                        · rw [if_pos c32] at H
                                          have c32b0 : decide (0 < x6_3) = true := decide_eq_true c32
                                          clear c32
                                          exact absurd H (by simp)
                                        · rw [if_neg c32] at H
                                          have c32b0 : decide (0 < x6_3) = false := decide_eq_false c32
                                          clear c32
                                          have H' := Aside0.mk H
                                          clear H
                                          have p18 : 0 ≤ (x7_3 : Int) := of_decide_eq_true (by first | (with_reducible assumption) | assumption)
                                          have q18 : x7_3 < (t155.size : Int) := of_decide_eq_true (by first | (with_reducible assumption) | assumption)
                                          have hx18 := bt_at t155 x7_3
                                          replace p18 := eq_true p18
                                          replace q18 := eq_true q18
                                          go_wp2
                                          go_roundg k3
                                          case measure => have := HJ2.out; have := HJ8.out; have := HK3.out; omega
                                          case rel => exact ⟨(x6_3), (wrap64 (x7_3 + 1)), (by first | rfl | (simp; done) | (simp [*]; done)), (by first | rfl | (simp; done) | (simp [*]; done)), H', ⟨by have := HJ2.out; have := HJ8.out; have := HK3.out; omega⟩, ⟨by repeat (first | (with_reducible first | exact HB.out | apply below_alloc | apply pw_below_drewN | apply below_drew1) | exact HB.out)⟩⟩
                                      · rw [if_neg c31] at H
                                        have c31b0 : ((bt t155 x7_3) == 47) = false := beq_eq_false_iff_ne.mpr c31
                                        have c31b1 : ((bt t155 x7_3) != 47) = true := bne_iff_ne.mpr c31
                                        exact absurd H (by simp)
                                · rw [if_neg c26] at H
                                  have c26b0 : decide (48 ≤ (bt t155 x7_3)) = false := decide_eq_false c26
                                  clear c26
                                  by_cases c33 : (bt t155 x7_3) = 43
                                  · rw [if_pos c33] at H
                                    have c33b0 : ((bt t155 x7_3) == 43) = true := beq_iff_eq.mpr c33
                                    have c33b1 : ((bt t155 x7_3) != 43) = false := bne_eq_false_iff_eq.mpr c33
                                    clear c33
                                    by_cases c34 : x6_3 > 0
                                    · rw [if_pos c34] at H
                                      have c34b0 : decide (0 < x6_3) = true := decide_eq_true c34
                                      clear c34
                                      exact absurd H (by simp)
                                    · rw [if_neg c34] at H
                                      have c34b0 : decide (0 < x6_3) = false := decide_eq_false c34
                                      clear c34
                                      have H' := Aside0.mk H
                                      clear H
                                      have p18 : 0 ≤ (x7_3 : Int) := of_decide_eq_true (by first | (with_reducible assumption) | assumption)
                                      have q18 : x7_3 < (t155.size : Int) := of_decide_eq_true (by first | (with_reducible assumption) | assumption)
                                      have hx18 := bt_at t155 x7_3
                                      replace p18 := eq_true p18
                                      replace q18 := eq_true q18
                                      go_wp2
                                      go_roundg k3
                                      case measure => have := HJ2.out; have := HJ8.out; have := HK3.out; omega
                                      case rel => exact ⟨(x6_3), (wrap64 (x7_3 + 1)), (by first | rfl | (simp; done) | (simp [*]; done)), (by first | rfl | (simp; done) | (simp [*]; done)), H', ⟨by have := HJ2.out; have := HJ8.out; have := HK3.out; omega⟩, ⟨by repeat (first | (with_reducible first | exact HB.out | apply below_alloc | apply pw_below_drewN | apply below_drew1) | exact HB.out)⟩⟩
                                  · rw [if_neg c33] at H
                                    have c33b0 : ((bt t155 x7_3) == 43) = false := beq_eq_false_iff_ne.mpr c33
                                    have c33b1 : ((bt t155 x7_3) != 43) = true := bne_iff_ne.mpr c33
                                    by_cases c35 : ((bt t155 x7_3) = 47)
                                    · rw [if_pos c35] at H
                                      have c35b0 : ((bt t155 x7_3) == 47) = true := beq_iff_eq.mpr c35
                                      have c35b1 : ((bt t155 x7_3) != 47) = false := bne_eq_false_iff_eq.mpr c35
                                      clear c35
                                      by_cases c36 : x6_3 > 0
                                      · rw [if_pos c36] at H
                                        have c36b0 : decide (0 < x6_3) = true := decide_eq_true c36
                                        clear c36
                                        exact absurd H (by simp)
                                      · rw [if_neg c36] at H
                                        have c36b0 : decide (0 < x6_3) = false := decide_eq_false c36
                                        clear c36
                                        have H' := Aside0.mk H
                                        clear H
                                        have p18 : 0 ≤ (x7_3 : Int) := of_decide_eq_true (by first | (with_reducible assumption) | assumption)
                                        have q18 : x7_3 < (t155.size : Int) := of_decide_eq_true (by first | (with_reducible assumption) | assumption)
                                        have hx18 := bt_at t155 x7_3
                                        replace p18 := eq_true p18
                                        replace q18 := eq_true q18
                                        go_wp2
                                        go_roundg k3
                                        case measure => have := HJ2.out; have := HJ8.out; have := HK3.out; omega
                                        case rel => exact ⟨(x6_3), (wrap64 (x7_3 + 1)), (by first | rfl | (simp; done) | (simp [*]; done)), (by first | rfl | (simp; done) | (simp [*]; done)), H', ⟨by have := HJ2.out; have := HJ8.out; have := HK3.out; omega⟩, ⟨by repeat (first | (with_reducible first | exact HB.out | apply below_alloc | apply pw_below_drewN | apply below_drew1) | exact HB.out)⟩⟩
                                    · rw [if_neg c35] at H
                                      have c35b0 : ((bt t155 x7_3) == 47) = false := beq_eq_false_iff_ne.mpr c35
                                      have c35b1 : ((bt t155 x7_3) != 47) = true := bne_iff_ne.mpr c35
                                      exact absurd H (by simp)
                            · rw [if_neg c23] at H
                              have c23b0 : decide (97 ≤ (bt t155 x7_3)) = false := decide_eq_false c23
                              clear c23
                              by_cases c37 : (bt t155 x7_3) ≥ 48
                              · rw [if_pos c37] at H
                                have c37b0 : decide (48 ≤ (bt t155 x7_3)) = true := decide_eq_true c37
                                clear c37
                                by_cases c38 : (bt t155 x7_3) ≤ 57
                                · rw [if_pos c38] at H
                                  have c38b0 : decide ((bt t155 x7_3) ≤ 57) = true := decide_eq_true c38
                                  clear c38
                                  by_cases c39 : x6_3 > 0
                                  · rw [if_pos c39] at H
                                    have c39b0 : decide (0 < x6_3) = true := decide_eq_true c39
                                    clear c39
                                    exact absurd H (by simp)
                                  · rw [if_neg c39] at H
                                    have c39b0 : decide (0 < x6_3) = false := decide_eq_false c39
                                    clear c39
                                    have H' := Aside0.mk H
                                    clear H
                                    have p18 : 0 ≤ (x7_3 : Int) := of_decide_eq_true (by first | (with_reducible assumption) | assumption)
                                    have q18 : x7_3 < (t155.size : Int) := of_decide_eq_true (by first | (with_reducible assumption) | assumption)
                                    have hx18 := bt_at t155 x7_3
                                    replace p18 := eq_true p18
                                    replace q18 := eq_true q18
                                    go_wp2
                                    go_roundg k3
                                    case measure => have := HJ2.out; have := HJ8.out; have := HK3.out; omega
                                    case rel => exact ⟨(x6_3), (wrap64 (x7_3 + 1)), (by first | rfl | (simp; done) | (simp [*]; done)), (by first | rfl | (simp; done) | (simp [*]; done)), H', ⟨by have := HJ2.out; have := HJ8.out; have := HK3.out; omega⟩, ⟨by repeat (first | (with_reducible first | exact HB.out | apply below_alloc | apply pw_below_drewN | apply below_drew1) | exact HB.out)⟩⟩
                                · rw [if_neg c38] at H
                                  have c38b0 : decide ((bt t155 x7_3) ≤ 57) = false := decide_eq_false c38
                                  clear c38
                                  by_cases c40 : (bt t155 x7_3) = 43
                                  · rw [if_pos c40] at H
                                    have c40b0 : ((bt t155 x7_3) == 43) = true := beq_iff_eq.mpr c40
                                    have c40b1 : ((bt t155 x7_3) != 43) = false := bne_eq_false_iff_eq.mpr c40
                                    clear c40
                                    by_cases c41 : x6_3 > 0
                                    · rw [if_pos c41] at H
                                      have c41b0 : decide (0 < x6_3) = true := decide_eq_true c41
                                      clear c41
                                      exact absurd H (by simp)
                                    · rw [if_neg c41] at H
                                      have c41b0 : decide (0 < x6_3) = false := decide_eq_false c41
                                      clear c41
                                      have H' := Aside0.mk H
                                      clear H
                                      have p18 : 0 ≤ (x7_3 : Int) := of_decide_eq_true (by first | (with_reducible assumption) | assumption)
                                      have q18 : x7_3 < (t155.size : Int) := of_decide_eq_true (by first | (with_reducible assumption) | assumption)
                                      have hx18 := bt_at t155 x7_3
                                      replace p18 := eq_true p18
                                      replace q18 := eq_true q18
                                      go_wp2
                                      go_roundg k3
                                      case measure => have := HJ2.out; have := HJ8.out; have := HK3.out; omega
                                      case rel => exact ⟨(x6_3), (wrap64 (x7_3 + 1)), (by first | rfl | (simp; done) | (simp [*]; done)), (by first | rfl | (simp; done) | (simp [*]; done)), H', ⟨by have := HJ2.out; have := HJ8.out; have := HK3.out; omega⟩, ⟨by repeat (first | (with_reducible first | exact HB.out | apply below_alloc | apply pw_below_drewN | apply below_drew1) | exact HB.out)⟩⟩
                                  · rw [if_neg c40] at H
                                    have c40b0 : ((bt t155 x7_3) == 43) = false := beq_eq_false_iff_ne.mpr c40
                                    have c40b1 : ((bt t155 x7_3) != 43) = true := bne_iff_ne.mpr c40
                                    by_cases c42 : ((bt t155 x7_3) = 47)
                                    · rw [if_pos c42] at H
                                      have c42b0 : ((bt t155 x7_3) == 47) = true := beq_iff_eq.mpr c42
                                      have c42b1 : ((bt t155 x7_3) != 47) = false := bne_eq_false_iff_eq.mpr c42
                                      clear c42
                                      by_cases c43 : x6_3 > 0
                                      · rw [if_pos c43] at H
                                        have c43b0 : decide (0 < x6_3) = true := decide_eq_true c43
                                        clear c43
                                        exact absurd H (by simp)
                                      · rw [if_neg c43] at H
                                        have c43b0 : decide (0 < x6_3) = false := decide_eq_false c43
                                        clear c43
                                        have H' := Aside0.mk H
                                        clear H
                                        have p18 : 0 ≤ (x7_3 : Int) := of_decide_eq_true (by first | (with_reducible assumption) | assumption)
                                        have q18 : x7_3 < (t155.size : Int) := of_decide_eq_true (by first | (with_reducible assumption) | assumption)
                                        have hx18 := bt_at t155 x7_3
                                        replace p18 := eq_true p18
                                        replace q18 := eq_true q18
                                        go_wp2
                                        go_roundg k3
                                        case measure => have := HJ2.out; have := HJ8.out; have := HK3.out; omega
                                        case rel => exact ⟨(x6_3), (wrap64 (x7_3 + 1)), (by first | rfl | (simp; done) | (simp [*]; done)), (by first | rfl | (simp; done) | (simp [*]; done)), H', ⟨by have := HJ2.out; have := HJ8.out; have := HK3.out; omega⟩, ⟨by repeat (first | (with_reducible first | exact HB.out | apply below_alloc | apply pw_below_drewN | apply below_drew1) | exact HB.out)⟩⟩
                                    · rw [if_neg c42] at H
                                      have c42b0 : ((bt t155 x7_3) == 47) = false := beq_eq_false_iff_ne.mpr c42
                                      have c42b1 : ((bt t155 x7_3) != 47) = true := bne_iff_ne.mpr c42
                                      exact absurd H (by simp)
                              · rw [if_neg c37] at H
                                have c37b0 : decide (48 ≤ (bt t155 x7_3)) = false := decide_eq_false c37
                                clear c37
                                by_cases c44 : (bt t155 x7_3) = 43
                                · rw [if_pos c44] at H
                                  have c44b0 : ((bt t155 x7_3) == 43) = true := beq_iff_eq.mpr c44
                                  have c44b1 : ((bt t155 x7_3) != 43) = false := bne_eq_false_iff_eq.mpr c44
                                  clear c44
                                  by_cases c45 : x6_3 > 0
                                  · rw [if_pos c45] at H
                                    have c45b0 : decide (0 < x6_3) = true := decide_eq_true c45
                                    clear c45
                                    exact absurd H (by simp)
                                  · rw [if_neg c45] at H
                                    have c45b0 : decide (0 < x6_3) = false := decide_eq_false c45
                                    clear c45
                                    have H' := Aside0.mk H
                                    clear H
                                    have p18 : 0 ≤ (x7_3 : Int) := of_decide_eq_true (by first | (with_reducible assumption) | assumption)
                                    have q18 : x7_3 < (t155.size : Int) := of_decide_eq_true (by first | (with_reducible assumption) | assumption)
                                    have hx18 := bt_at t155 x7_3
                                    replace p18 := eq_true p18
                                    replace q18 := eq_true q18
                                    go_wp2
                                    go_roundg k3
                                    case measure => have := HJ2.out; have := HJ8.out; have := HK3.out; omega
                                    case rel => exact ⟨(x6_3), (wrap64 (x7_3 + 1)), (by first | rfl | (simp; done) | (simp [*]; done)), (by first | rfl | (simp; done) | (simp [*]; done)), H', ⟨by have := HJ2.out; have := HJ8.out; have := HK3.out; omega⟩, ⟨by repeat (first | (with_reducible first | exact HB.out | apply below_alloc | apply pw_below_drewN | apply below_drew1) | exact HB.out)⟩⟩
                                · rw [if_neg c44] at H
                                  have c44b0 : ((bt t155 x7_3) == 43) = false := beq_eq_false_iff_ne.mpr c44
                                  have c44b1 : ((bt t155 x7_3) != 43) = true := bne_iff_ne.mpr c44
                                  by_cases c46 : ((bt t155 x7_3) = 47)
                                  · rw [if_pos c46] at H
                                    have c46b0 : ((bt t155 x7_3) == 47) = true := beq_iff_eq.mpr c46
                                    have c46b1 : ((bt t155 x7_3) != 47) = false := bne_eq_false_iff_eq.mpr c46
                                    clear c46
                                    by_cases c47 : x6_3 > 0
                                    · rw [if_pos c47] at H
                                      have c47b0 : decide (0 < x6_3) = true := decide_eq_true c47
                                      clear c47
                                      exact absurd H (by simp)
                                    · rw [if_neg c47] at H
                                      have c47b0 : decide (0 < x6_3) = false := decide_eq_false c47
                                      clear c47
                                      have H' := Aside0.mk H
                                      clear H
                                      have p18 : 0 ≤ (x7_3 : Int) := of_decide_eq_true (by first | (with_reducible assumption) | assumption)
                                      have q18 : x7_3 < (t155.size : Int) := of_decide_eq_true (by first | (with_reducible assumption) | assumption)
                                      have hx18 := bt_at t155 x7_3
                                      replace p18 := eq_true p18
                                      replace q18 := eq_true q18
                                      go_wp2
                                      go_roundg k3
                                      case measure => have := HJ2.out; have := HJ8.out; have := HK3.out; omega
                                      case rel => exact ⟨(x6_3), (wrap64 (x7_3 + 1)), (by first | rfl | (simp; done) | (simp [*]; done)), (by first | rfl | (simp; done) | (simp [*]; done)), H', ⟨by have := HJ2.out; have := HJ8.out; have := HK3.out; omega⟩, ⟨by repeat (first | (with_reducible first | exact HB.out | apply below_alloc | apply pw_below_drewN | apply below_drew1) | exact HB.out)⟩⟩
                                  · rw [if_neg c46] at H
                                    have c46b0 : ((bt t155 x7_3) == 47) = false := beq_eq_false_iff_ne.mpr c46
                                    have c46b1 : ((bt t155 x7_3) != 47) = true := bne_iff_ne.mpr c46
                                    exact absurd H (by simp)
                        · rw [if_neg c20] at H
                          have c20b0 : decide (65 ≤ (bt t155 x7_3)) = false := decide_eq_false c20
                          clear c20
                          by_cases c48 : (bt t155 x7_3) ≥ 97
                          · rw [if_pos c48] at H
                            have c48b0 : decide (97 ≤ (bt t155 x7_3)) = true := decide_eq_true c48
                            clear c48
                            by_cases c49 : (bt t155 x7_3) ≤ 122
                            · rw [if_pos c49] at H
                              have c49b0 : decide ((bt t155 x7_3) ≤ 122) = true := decide_eq_true c49
                              clear c49
                              by_cases c50 : x6_3 > 0
                              · rw [if_pos c50] at H
                                have c50b0 : decide (0 < x6_3) = true := decide_eq_true c50
                                clear c50
                                exact absurd H (by simp)
                              · rw [if_neg c50] at H
                                have c50b0 : decide (0 < x6_3) = false := decide_eq_false c50
                                clear c50
                                have H' := Aside0.mk H
                                clear H
                                have p18 : 0 ≤ (x7_3 : Int) := of_decide_eq_true (by first | (with_reducible assumption) | assumption)
                                have q18 : x7_3 < (t155.size : Int) := of_decide_eq_true (by first | (with_reducible assumption) | assumption)
                                have hx18 := bt_at t155 x7_3
                                replace p18 := eq_true p18
                                replace q18 := eq_true q18
                                go_wp2
                                go_roundg k3
                                case measure => have := HJ2.out; have := HJ8.out; have := HK3.out; omega
                                case rel => exact ⟨(x6_3), (wrap64 (x7_3 + 1)), (by first | rfl | (simp; done) | (simp [*]; done)), (by first | rfl | (simp; done) | (simp [*]; done)), H', ⟨by have := HJ2.out; have := HJ8.out; have := HK3.out; omega⟩, ⟨by repeat (first | (with_reducible first | exact HB.out | apply below_alloc | apply pw_below_drewN | apply below_drew1) | exact HB.out)⟩⟩
                            · rw [if_neg c49] at H
                              have c49b0 : decide ((bt t155 x7_3) ≤ 122) = false := decide_eq_false c49
                              clear c49
                              by_cases c51 : (bt t155 x7_3) ≥ 48
                              · rw [if_pos c51] at H
                                have c51b0 : decide (48 ≤ (bt t155 x7_3)) = true := decide_eq_true c51
                                clear c51
                                by_cases c52 : (bt t155 x7_3) ≤ 57
                                · rw [if_pos c52] at H
                                  have c52b0 : decide ((bt t155 x7_3) ≤ 57) = true := decide_eq_true c52
                                  clear c52
                                  by_cases c53 : x6_3 > 0
                                  · rw [if_pos c53] at H
                                    have c53b0 : decide (0 < x6_3) = true := decide_eq_true c53
                                    clear c53
                                    exact absurd H (by simp)
                                  · rw [if_neg c53] at H
                                    have c53b0 : decide (0 < x6_3) = false := decide_eq_false c53
                                    clear c53
                                    have H' := Aside0.mk H
                                    clear H
                                    have p18 : 0 ≤ (x7_3 : Int) := of_decide_eq_true (by first | (with_reducible assumption) | assumption)
                                    have q18 : x7_3 < (t155.size : Int) := of_decide_eq_true (by first | (with_reducible assumption) | assumption)
                                    have hx18 := bt_at t155 x7_3
                                    replace p18 := eq_true p18
                                    replace q18 := eq_true q18
                                    go_wp2
                                    go_roundg k3
                                    case measure => have := HJ2.out; have := HJ8.out; have := HK3.out; omega
                                    case rel => exact ⟨(x6_3), (wrap64 (x7_3 + 1)), (by first | rfl | (simp; done) | (simp [*]; done)), (by first | rfl | (simp; done) | (simp [*]; done)), H', ⟨by have := HJ2.out; have := HJ8.out; have := HK3.out; omega⟩, ⟨by repeat (first | (with_reducible first | exact HB.out | apply below_alloc | apply pw_below_drewN | apply below_drew1) | exact HB.out)⟩⟩
                                · rw [if_neg c52] at H
                                  have c52b0 : decide ((bt t155 x7_3) ≤ 57) = false := decide_eq_false c52
                                  clear c52
                                  by_cases c54 : (bt t155 x7_3) = 43
                                  · rw [if_pos c54] at H
                                    have c54b0 : ((bt t155 x7_3) == 43) = true := beq_iff_eq.mpr c54
                                    have c54b1 : ((bt t155 x7_3) != 43) = false := bne_eq_false_iff_eq.mpr c54
                                    clear c54
                                    by_cases c55 : x6_3 > 0
                                    · rw [if_pos c55] at H
                                      have c55b0 : decide (0 < x6_3) = true := decide_eq_true c55
                                      clear c55
                                      exact absurd H (by simp)
                                    · rw [if_neg c55] at H
                                      have c55b0 : decide (0 < x6_3) = false := decide_eq_false c55
                                      clear c55
                                      have H' := Aside0.mk H
                                      clear H
                                      have p18 : 0 ≤ (x7_3 : Int) := of_decide_eq_true (by first | (with_reducible assumption) | assumption)
                                      have q18 : x7_3 < (t155.size : Int) := of_decide_eq_true (by first | (with_reducible assumption) | assumption)
                                      have hx18 := bt_at t155 x7_3
                                      replace p18 := eq_true p18
                                      replace q18 := eq_true q18
                                      go_wp2
                                      go_roundg k3
                                      case measure => have := HJ2.out; have := HJ8.out; have := HK3.out; omega
                                      case rel => exact ⟨(x6_3), (wrap64 (x7_3 + 1)), (by first | rfl | (simp; done) | (simp [*]; done)), (by first | rfl | (simp; done) | (simp [*]; done)), H', ⟨by have := HJ2.out; have := HJ8.out; have := HK3.out; omega⟩, ⟨by repeat (first | (with_reducible first | exact HB.out | apply below_alloc | apply pw_below_drewN | apply below_drew1) | exact HB.out)⟩⟩
                                  · rw [if_neg c54] at H
                                    have c54b0 : ((bt t155 x7_3) == 43) = false := beq_eq_false_iff_ne.mpr c54
                                    have c54b1 : ((bt t155 x7_3) != 43) = true := bne_iff_ne.mpr c54
                                    by_cases c56 : ((bt t155 x7_3) = 47)
                                    · rw [if_pos c56] at H
                                      have c56b0 : ((bt t155 x7_3) == 47) = true := beq_iff_eq.mpr c56
                                      have c56b1 : ((bt t155 x7_3) != 47) = false := bne_eq_false_iff_eq.mpr c56
                                      clear c56
                                      by_cases c57 : x6_3 > 0
                                      · rw [if_pos c57] at H
                                        have c57b0 : decide (0 < x6_3) = true := decide_eq_true c57
                                        clear c57
                                        exact absurd H (by simp)
                                      · rw [if_neg c57] at H
                                        have c57b0 : decide (0 < x6_3) = false := decide_eq_false c57
                                        clear c57
                                        have H' := Aside0.mk H
                                        clear H
                                        have p18 : 0 ≤ (x7_3 : Int) := of_decide_eq_true (by first | (with_reducible assumption) | assumption)
                                        have q18 : x7_3 < (t155.size : Int) := of_decide_eq_true (by first | (with_reducible assumption) | assumption)
                                        have hx18 := bt_at t155 x7_3
                                        replace p18 := eq_true p18
                                        replace q18 := eq_true q18
                                        go_wp2
                                        go_roundg k3
                                        case measure => have := HJ2.out; have := HJ8.out; have := HK3.out; omega
                                        case rel => exact ⟨(x6_3), (wrap64 (x7_3 + 1)), (by first | rfl | (simp; done) | (simp [*]; done)), (by first | rfl | (simp; done) | (simp [*]; done)), H', ⟨by have := HJ2.out; have := HJ8.out; have := HK3.out; omega⟩, ⟨by repeat (first | (with_reducible first | exact HB.out | apply below_alloc | apply pw_below_drewN | apply below_drew1) | exact HB.out)⟩⟩
                                    · rw [if_neg c56] at H
                                      have c56b0 : ((bt t155 x7_3) == 47) = false := beq_eq_false_iff_ne.mpr c56
                                      have c56b1 : ((bt t155 x7_3) != 47) = true := bne_iff_ne.mpr c56
                                      exact absurd H (by simp)
                              · rw [if_neg c51] at H
                                have c51b0 : decide (48 ≤ (bt t155 x7_3)) = false := decide_eq_false c51
                                clear c51
                                by_cases c58 : (bt t155 x7_3) = 43
                                · rw [if_pos c58] at H
                                  have c58b0 : ((bt t155 x7_3) == 43) = true := beq_iff_eq.mpr c58
                                  have c58b1 : ((bt t155 x7_3) != 43) = false := bne_eq_false_iff_eq.mpr c58
                                  clear c58
                                  by_cases c59 : x6_3 > 0
                                  · rw [if_pos c59] at H
                                    have c59b0 : decide (0 < x6_3) = true := decide_eq_true c59
                                    clear c59
                                    exact absurd H (by simp)
                                  · rw [if_neg c59] at H
                                    have c59b0 : decide (0 < x6_3) = false := decide_eq_false c59
                                    clear c59
                                    have H' := Aside0.mk H
                                    clear H
                                    have p18 : 0 ≤ (x7_3 : Int) := of_decide_eq_true (by first | (with_reducible assumption) | assumption)
                                    have q18 : x7_3 < (t155.size : Int) := of_decide_eq_true (by first | (with_reducible assumption) | assumption)
                                    have hx18 := bt_at t155 x7_3
                                    replace p18 := eq_true p18
                                    replace q18 := eq_true q18
                                    go_wp2
                                    go_roundg k3
                                    case measure => have := HJ2.out; have := HJ8.out; have := HK3.out; omega
                                    case rel => exact ⟨(x6_3), (wrap64 (x7_3 + 1)), (by first | rfl | (simp; done) | (simp [*]; done)), (by first | rfl | (simp; done) | (simp [*]; done)), H', ⟨by have := HJ2.out; have := HJ8.out; have := HK3.out; omega⟩, ⟨by repeat (first | (with_reducible first | exact HB.out | apply below_alloc | apply pw_below_drewN | apply below_drew1) | exact HB.out)⟩⟩
                                · rw [if_neg c58] at H
                                  have c58b0 : ((bt t155 x7_3) == 43) = false := beq_eq_false_iff_ne.mpr c58
                                  have c58b1 : ((bt t155 x7_3) != 43) = true := bne_iff_ne.mpr c58
                                  by_cases c60 : ((bt t155 x7_3) = 47)
                                  · rw [if_pos c60] at H
                                    have c60b0 : ((bt t155 x7_3) == 47) = true := beq_iff_eq.mpr c60
                                    have c60b1 : ((bt t155 x7_3) != 47) = false := bne_eq_false_iff_eq.mpr c60
                                    clear c60
                                    by_cases c61 : x6_3 > 0
                                    · rw [if_pos c61] at H
                                      have c61b0 : decide (0 < x6_3) = true := decide_eq_true c61
                                      clear c61
                                      exact absurd H (by simp)
                                    · rw [if_neg c61] at H
                                      have c61b0 : decide (0 < x6_3) = false := decide_eq_false c61
                                      clear c61
                                      have H' := Aside0.mk H
                                      clear H
                                      have p18 : 0 ≤ (x7_3 : Int) := of_decide_eq_true (by first | (with_reducible assumption) | assumption)
                                      have q18 : x7_3 < (t155.size : Int) := of_decide_eq_true (by first | (with_reducible assumption) | assumption)
                                      have hx18 := bt_at t155 x7_3
                                      replace p18 := eq_true p18
                                      replace q18 := eq_true q18
                                      go_wp2
                                      go_roundg k3
                                      case measure => have := HJ2.out; have := HJ8.out; have := HK3.out; omega
                                      case rel => exact ⟨(x6_3), (wrap64 (x7_3 + 1)), (by first | rfl | (simp; done) | (simp [*]; done)), (by first | rfl | (simp; done) | (simp [*]; done)), H', ⟨by have := HJ2.out; have := HJ8.out; have := HK3.out; omega⟩, ⟨by repeat (first | (with_reducible first | exact HB.out | apply below_alloc | apply pw_below_drewN | apply below_drew1) | exact HB.out)⟩⟩
                                  · rw [if_neg c60] at H
                                    have c60b0 : ((bt t155 x7_3) == 47) = false := beq_eq_false_iff_ne.mpr c60
                                    have c60b1 : ((bt t155 x7_3) != 47) = true := bne_iff_ne.mpr c60
                                    exact absurd H (by simp)
                          · rw [if_neg c48] at H
                            have c48b0 : decide (97 ≤ (bt t155 x7_3)) = false := decide_eq_false c48
                            clear c48
                            by_cases c62 : (bt t155 x7_3) ≥ 48
                            · rw [if_pos c62] at H
                              have c62b0 : decide (48 ≤ (bt t155 x7_3)) = true := decide_eq_true c62
                              clear c62
                              by_cases c63 : (bt t155 x7_3) ≤ 57
                              · rw [if_pos c63] at H
                                have c63b0 : decide ((bt t155 x7_3) ≤ 57) = true := decide_eq_true c63
                                clear c63
                                by_cases c64 : x6_3 > 0
                                · rw [if_pos c64] at H
                                  have c64b0 : decide (0 < x6_3) = true := decide_eq_true c64
                                  clear c64
                                  exact absurd H (by simp)
                                · rw [if_neg c64] at H
                                  have c64b0 : decide (0 < x6_3) = false := decide_eq_false c64
                                  clear c64
                                  have H' := Aside0.mk H
                                  clear H
                                  have p18 : 0 ≤ (x7_3 : Int) := of_decide_eq_true (by first | (with_reducible assumption) | assumption)
                                  have q18 : x7_3 < (t155.size : Int) := of_decide_eq_true (by first | (with_reducible assumption) | assumption)
                                  have hx18 := bt_at t155 x7_3
                                  replace p18 := eq_true p18
                                  replace q18 := eq_true q18
                                  go_wp2
                                  go_roundg k3
                                  case measure => have := HJ2.out; have := HJ8.out; have := HK3.out; omega
                                  case rel => exact ⟨(x6_3), (wrap64 (x7_3 + 1)), (by first | rfl | (simp; done) | (simp [*]; done)), (by first | rfl | (simp; done) | (simp [*]; done)), H', ⟨by have := HJ2.out; have := HJ8.out; have := HK3.out; omega⟩, ⟨by repeat (first | (with_reducible first | exact HB.out | apply below_alloc | apply pw_below_drewN | apply below_drew1) | exact HB.out)⟩⟩
                              · rw [if_neg c63] at H
                                have c63b0 : decide ((bt t155 x7_3) ≤ 57) = false := decide_eq_false c63
                                clear c63
                                by_cases c65 : (bt t155 x7_3) = 43
                                · rw [if_pos c65] at H
                                  have c65b0 : ((bt t155 x7_3) == 43) = true := beq_iff_eq.mpr c65
                                  have c65b1 : ((bt t155 x7_3) != 43) = false := bne_eq_false_iff_eq.mpr c65
                                  clear c65
                                  by_cases c66 : x6_3 > 0
                                  · rw [if_pos c66] at H
                                    have c66b0 : decide (0 < x6_3) = true := decide_eq_true c66
                                    clear c66
                                    exact absurd H (by simp)
                                  · rw [if_neg c66] at H
                                    have c66b0 : decide (0 < x6_3) = false := decide_eq_false c66
                                    clear c66
                                    have H' := Aside0.mk H
                                    clear H
                                    have p18 : 0 ≤ (x7_3 : Int) := of_decide_eq_true (by first | (with_reducible assumption) | assumption)
                                    have q18 : x7_3 < (t155.size : Int) := of_decide_eq_true (by first | (with_reducible assumption) | assumption)
                                    have hx18 := bt_at t155 x7_3
                                    replace p18 := eq_true p18
                                    replace q18 := eq_true q18
                                    go_wp2
                                    go_roundg k3
                                    case measure => have := HJ2.out; have := HJ8.out; have := HK3.out; omega
                                    case rel => exact ⟨(x6_3), (wrap64 (x7_3 + 1)), (by first | rfl | (simp; done) | (simp [*]; done)), (by first | rfl | (simp; done) | (simp [*]; done)), H', ⟨by have := HJ2.out; have := HJ8.out; have := HK3.out; omega⟩, ⟨by repeat (first | (with_reducible first | exact HB.out | apply below_alloc | apply pw_below_drewN | apply below_drew1) | exact HB.out)⟩⟩
                                · rw [if_neg c65] at H
                                  have c65b0 : ((bt t155 x7_3) == 43) = false := beq_eq_false_iff_ne.mpr c65
                                  have c65b1 : ((bt t155 x7_3) != 43) = true := bne_iff_ne.mpr c65
                                  by_cases c67 : ((bt t155 x7_3) = 47)
                                  · rw [if_pos c67] at H
                                    have c67b0 : ((bt t155 x7_3) == 47) = true := beq_iff_eq.mpr c67
                                    have c67b1 : ((bt t155 x7_3) != 47) = false := bne_eq_false_iff_eq.mpr c67
                                    clear c67
                                    by_cases c68 : x6_3 > 0
                                    · rw [if_pos c68] at H
                                      have c68b0 : decide (0 < x6_3) = true := decide_eq_true c68
                                      clear c68
                                      exact absurd H (by simp)
                                    · rw [if_neg c68] at H
                                      have c68b0 : decide (0 < x6_3) = false := decide_eq_false c68
                                      clear c68
                                      have H' := Aside0.mk H
                                      clear H
                                      have p18 : 0 ≤ (x7_3 : Int) := of_decide_eq_true (by first | (with_reducible assumption) | assumption)
                                      have q18 : x7_3 < (t155.size : Int) := of_decide_eq_true (by first | (with_reducible assumption) | assumption)
                                      have hx18 := bt_at t155 x7_3
                                      replace p18 := eq_true p18
                                      replace q18 := eq_true q18
                                      go_wp2
                                      go_roundg k3
                                      case measure => have := HJ2.out; have := HJ8.out; have := HK3.out; omega
                                      case rel => exact ⟨(x6_3), (wrap64 (x7_3 + 1)), (by first | rfl | (simp; done) | (simp [*]; done)), (by first | rfl | (simp; done) | (simp [*]; done)), H', ⟨by have := HJ2.out; have := HJ8.out; have := HK3.out; omega⟩, ⟨by repeat (first | (with_reducible first | exact HB.out | apply below_alloc | apply pw_below_drewN | apply below_drew1) | exact HB.out)⟩⟩
                                  · rw [if_neg c67] at H
                                    have c67b0 : ((bt t155 x7_3) == 47) = false := beq_eq_false_iff_ne.mpr c67
                                    have c67b1 : ((bt t155 x7_3) != 47) = true := bne_iff_ne.mpr c67
                                    exact absurd H (by simp)
                            · rw [if_neg c62] at H
                              have c62b0 : decide (48 ≤ (bt t155 x7_3)) = false := decide_eq_false c62
                              clear c62
                              by_cases c69 : (bt t155 x7_3) = 43
                              · rw [if_pos c69] at H
                                have c69b0 : ((bt t155 x7_3) == 43) = true := beq_iff_eq.mpr c69
                                have c69b1 : ((bt t155 x7_3) != 43) = false := bne_eq_false_iff_eq.mpr c69
                                clear c69
                                by_cases c70 : x6_3 > 0
                                · rw [if_pos c70] at H
                                  have c70b0 : decide (0 < x6_3) = true := decide_eq_true c70
                                  clear c70
                                  exact absurd H (by simp)
                                · rw [if_neg c70] at H
                                  have c70b0 : decide (0 < x6_3) = false := decide_eq_false c70
                                  clear c70
                                  have H' := Aside0.mk H
                                  clear H
                                  have p18 : 0 ≤ (x7_3 : Int) := of_decide_eq_true (by first | (with_reducible assumption) | assumption)
                                  have q18 : x7_3 < (t155.size : Int) := of_decide_eq_true (by first | (with_reducible assumption) | assumption)
                                  have hx18 := bt_at t155 x7_3
                                  replace p18 := eq_true p18
                                  replace q18 := eq_true q18
                                  go_wp2
                                  go_roundg k3
                                  case measure => have := HJ2.out; have := HJ8.out; have := HK3.out; omega
                                  case rel => exact ⟨(x6_3), (wrap64 (x7_3 + 1)), (by first | rfl | (simp; done) | (simp [*]; done)), (by first | rfl | (simp; done) | (simp [*]; done)), H', ⟨by have := HJ2.out; have := HJ8.out; have := HK3.out; omega⟩, ⟨by repeat (first | (with_reducible first | exact HB.out | apply below_alloc | apply pw_below_drewN | apply below_drew1) | exact HB.out)⟩⟩
                              · rw [if_neg c69] at H
                                have c69b0 : ((bt t155 x7_3) == 43) = false := beq_eq_false_iff_ne.mpr c69
                                have c69b1 : ((bt t155 x7_3) != 43) = true := bne_iff_ne.mpr c69
                                by_cases c71 : ((bt t155 x7_3) = 47)
                                · rw [if_pos c71] at H
                                  have c71b0 : ((bt t155 x7_3) == 47) = true := beq_iff_eq.mpr c71
                                  have c71b1 : ((bt t155 x7_3) != 47) = false := bne_eq_false_iff_eq.mpr c71
                                  clear c71
                                  by_cases c72 : x6_3 > 0
                                  · rw [if_pos c72] at H
                                    have c72b0 : decide (0 < x6_3) = true := decide_eq_true c72
                                    clear c72
                                    exact absurd H (by simp)
                                  · rw [if_neg c72] at H
                                    have c72b0 : decide (0 < x6_3) = false := decide_eq_false c72
                                    clear c72
                                    have H' := Aside0.mk H
                                    clear H
                                    have p18 : 0 ≤ (x7_3 : Int) := of_decide_eq_true (by first | (with_reducible assumption) | assumption)
                                    have q18 : x7_3 < (t155.size : Int) := of_decide_eq_true (by first | (with_reducible assumption) | assumption)
                                    have hx18 := bt_at t155 x7_3
                                    replace p18 := eq_true p18
                                    replace q18 := eq_true q18
                                    go_wp2
                                    go_roundg k3
                                    case measure => have := HJ2.out; have := HJ8.out; have := HK3.out; omega
                                    case rel => exact ⟨(x6_3), (wrap64 (x7_3 + 1)), (by first | rfl | (simp; done) | (simp [*]; done)), (by first | rfl | (simp; done) | (simp [*]; done)), H', ⟨by have := HJ2.out; have := HJ8.out; have := HK3.out; omega⟩, ⟨by repeat (first | (with_reducible first | exact HB.out | apply below_alloc | apply pw_below_drewN | apply below_drew1) | exact HB.out)⟩⟩
                                · rw [if_neg c71] at H
                                  have c71b0 : ((bt t155 x7_3) == 47) = false := beq_eq_false_iff_ne.mpr c71
                                  have c71b1 : ((bt t155 x7_3) != 47) = true := bne_iff_ne.mpr c71
                                  exact absurd H (by simp)
                    · rw [if_neg c17] at H
                      exact absurd H (by simp)
                  · rw [if_neg c16] at H
                    have c16b0 : decide (x7_3 < (t155.size : Int)) = false := decide_eq_false c16
                    clear c16
                    by_cases c73 : x6_3 = ((3 - ((a0.size : Int) % 3)) % 3)
                    · rw [if_pos c73] at H
                      have c73b0 : (x6_3 == ((3 - ((a0.size : Int) % 3)) % 3)) = true := beq_iff_eq.mpr c73
                      have c73b1 : (x6_3 != ((3 - ((a0.size : Int) % 3)) % 3)) = false := bne_eq_false_iff_eq.mpr c73
                      have EQ_ := Aside0.mk (show x6_3 = -((a0.size : Int) % 3) % 3 from by have := c73; omega) -- FIX13
                      clear c73
                      replace H := Option.bind_eq_some_iff.mp H
                      obtain ⟨t157, A740, H⟩ := H
                      replace H : (some t157) = some true := H
                      have A74 := Aside0.mk A740
                      clear A740
                      obtain rfl := Option.some.inj H
                      go_wp2_with (first | (go_at_call 7; (with_reducible refine (armadalaw13_live.calls  true _ A74.out).mono ?_); rintro e w75 ⟨rfl, hb⟩; have n0_ := Aside0.mk (below_step (by repeat (first | (with_reducible first | exact HB.out | apply below_alloc | apply pw_below_drewN | apply below_drew1) | exact HB.out)) hb); clear HB; have HB := n0_; clear n0_; (try clear hb); (try clear hb2); (try clear hk); (try clear hi)))
                      all_goals (first | exact absurd EQ_.out (by assumption) | (go_ret; exact ⟨by first | rfl | (simp [errW_none, errW_some] <;> rfl) | (simp [*, errW_none, errW_some] <;> rfl), by repeat (first | (with_reducible first | exact HB.out | apply below_alloc | apply pw_below_drewN | apply below_drew1) | exact HB.out)⟩)) -- FIX13
                    · rw [if_neg c73] at H
                      have c73b0 : (x6_3 == ((3 - ((a0.size : Int) % 3)) % 3)) = false := beq_eq_false_iff_ne.mpr c73
                      have c73b1 : (x6_3 != ((3 - ((a0.size : Int) % 3)) % 3)) = true := bne_iff_ne.mpr c73
                      exact absurd H (by simp)
/-- THE ONE PURE STATEMENT of armadalaw13_B64Apart: yours. -/
def armadalaw13_B64Apart.Pure : Prop := ∀ (a0 : ByteArray) (a1 : ByteArray), a0.size ≤ 140737488351232 → a1.size ≤ 140737488351232 → ∃ k, armadalaw13_B64Apart.f k a0 a1 = some true
end Go.Proofs.YtjmomhicemjilaaDoor.P
