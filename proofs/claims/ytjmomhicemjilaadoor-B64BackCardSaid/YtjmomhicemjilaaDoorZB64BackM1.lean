/- Printed functions, merged. -/
import Derived.Test.YtjmomhicemjilaaDoorZB64BackM0
import Derived.Test.YtjmomhicemjilaaDoorZB64BackBDecode
import Derived.Test.YtjmomhicemjilaaDoorZB64BackBEncode
namespace Go.Proofs.YtjmomhicemjilaaDoor.P
open Go.RowKit Go.Proofs.YtjmomhicemjilaaDoorW.PrintWords Go.Proofs.YtjmomhicemjilaaDoorW.PrintLast Go.Proofs.YtjmomhicemjilaaDoorW.PrintMore
attribute [local go_sem] max2_int min2_int max_two min_two max_three min_three max_four min_four   -- for this text's walks alone
set_option linter.unusedVariables false
set_option linter.unusedSimpArgs false
def armadalaw13_live.f  : Option (Bool) := (b64_Decode.f (⟨#[90, 109, 57, 118, 89, 103, 61, 61]⟩ : ByteArray)).bind fun bt103 => ((b64_Decode.f (⟨#[90, 109, 57, 118, 89, 104, 61, 61]⟩ : ByteArray)).bind fun bt105 => ((b64_Encode.f (⟨#[]⟩ : ByteArray)).bind fun t107 => (if t107.toList = ([] : List UInt8) then ((b64_Encode.f (⟨#[102]⟩ : ByteArray)).bind fun t108 => (if t108.toList = ([90, 103, 61, 61] : List UInt8) then ((b64_Encode.f (⟨#[102, 111]⟩ : ByteArray)).bind fun t109 => (if t109.toList = ([90, 109, 56, 61] : List UInt8) then ((b64_Encode.f (⟨#[102, 111, 111, 98, 97, 114]⟩ : ByteArray)).bind fun t110 => (if t110.toList = ([90, 109, 57, 118, 89, 109, 70, 121] : List UInt8) then ((b64_Encode.f (⟨#[251, 255]⟩ : ByteArray)).bind fun t111 => (if t111.toList = ([43, 47, 56, 61] : List UInt8) then (if bt103.1.toList = ([102, 111, 111, 98] : List UInt8) then (if bt103.2 = true then (if bt105.2 = true then (some false) else ((b64_Size.f 4).bind fun t112 => (if t112 = 8 then ((b64_Size.f (-1)).bind fun t113 => (some (t113 == (-1)))) else (some false)))) else (some false)) else (some false)) else (some false))) else (some false))) else (some false))) else (some false))) else (some false))))
set_option maxHeartbeats 8000000 in
set_option maxRecDepth 100000 in
theorem armadalaw13_live.calls  (r : Bool) (w : World) (h : armadalaw13_live.f  = some r) (hT_ : r = true := by rfl) :
    Calls Tryd.prog 7 #[] w fun e w' => e = .returned (.bool r) ∧ Below w.heap.size w w' := by
  subst hT_
  have HB := Aside0.mk (Below.refl w.heap.size w)
  have H : ((b64_Decode.f (⟨#[90, 109, 57, 118, 89, 103, 61, 61]⟩ : ByteArray)).bind fun bt103 => ((b64_Decode.f (⟨#[90, 109, 57, 118, 89, 104, 61, 61]⟩ : ByteArray)).bind fun bt105 => ((b64_Encode.f (⟨#[]⟩ : ByteArray)).bind fun t107 => (if t107.toList = ([] : List UInt8) then ((b64_Encode.f (⟨#[102]⟩ : ByteArray)).bind fun t108 => (if t108.toList = ([90, 103, 61, 61] : List UInt8) then ((b64_Encode.f (⟨#[102, 111]⟩ : ByteArray)).bind fun t109 => (if t109.toList = ([90, 109, 56, 61] : List UInt8) then ((b64_Encode.f (⟨#[102, 111, 111, 98, 97, 114]⟩ : ByteArray)).bind fun t110 => (if t110.toList = ([90, 109, 57, 118, 89, 109, 70, 121] : List UInt8) then ((b64_Encode.f (⟨#[251, 255]⟩ : ByteArray)).bind fun t111 => (if t111.toList = ([43, 47, 56, 61] : List UInt8) then (if bt103.1.toList = ([102, 111, 111, 98] : List UInt8) then (if bt103.2 = true then (if bt105.2 = true then (some false) else ((b64_Size.f 4).bind fun t112 => (if t112 = 8 then ((b64_Size.f (-1)).bind fun t113 => (some (t113 == (-1)))) else (some false)))) else (some false)) else (some false)) else (some false))) else (some false))) else (some false))) else (some false))) else (some false))))) = some true := h
  clear h
  replace H := Option.bind_eq_some_iff.mp H
  obtain ⟨⟨t103, t104⟩, A10, H⟩ := H
  replace H : ((b64_Decode.f (⟨#[90, 109, 57, 118, 89, 104, 61, 61]⟩ : ByteArray)).bind fun bt105 => ((b64_Encode.f (⟨#[]⟩ : ByteArray)).bind fun t107 => (if t107.toList = ([] : List UInt8) then ((b64_Encode.f (⟨#[102]⟩ : ByteArray)).bind fun t108 => (if t108.toList = ([90, 103, 61, 61] : List UInt8) then ((b64_Encode.f (⟨#[102, 111]⟩ : ByteArray)).bind fun t109 => (if t109.toList = ([90, 109, 56, 61] : List UInt8) then ((b64_Encode.f (⟨#[102, 111, 111, 98, 97, 114]⟩ : ByteArray)).bind fun t110 => (if t110.toList = ([90, 109, 57, 118, 89, 109, 70, 121] : List UInt8) then ((b64_Encode.f (⟨#[251, 255]⟩ : ByteArray)).bind fun t111 => (if t111.toList = ([43, 47, 56, 61] : List UInt8) then (if t103.toList = ([102, 111, 111, 98] : List UInt8) then (if t104 = true then (if bt105.2 = true then (some false) else ((b64_Size.f 4).bind fun t112 => (if t112 = 8 then ((b64_Size.f (-1)).bind fun t113 => (some (t113 == (-1)))) else (some false)))) else (some false)) else (some false)) else (some false))) else (some false))) else (some false))) else (some false))) else (some false)))) = some true := H
  have A1 := Aside0.mk A10
  clear A10
  replace H := Option.bind_eq_some_iff.mp H
  obtain ⟨⟨t105, t106⟩, A20, H⟩ := H
  replace H : ((b64_Encode.f (⟨#[]⟩ : ByteArray)).bind fun t107 => (if t107.toList = ([] : List UInt8) then ((b64_Encode.f (⟨#[102]⟩ : ByteArray)).bind fun t108 => (if t108.toList = ([90, 103, 61, 61] : List UInt8) then ((b64_Encode.f (⟨#[102, 111]⟩ : ByteArray)).bind fun t109 => (if t109.toList = ([90, 109, 56, 61] : List UInt8) then ((b64_Encode.f (⟨#[102, 111, 111, 98, 97, 114]⟩ : ByteArray)).bind fun t110 => (if t110.toList = ([90, 109, 57, 118, 89, 109, 70, 121] : List UInt8) then ((b64_Encode.f (⟨#[251, 255]⟩ : ByteArray)).bind fun t111 => (if t111.toList = ([43, 47, 56, 61] : List UInt8) then (if t103.toList = ([102, 111, 111, 98] : List UInt8) then (if t104 = true then (if t106 = true then (some false) else ((b64_Size.f 4).bind fun t112 => (if t112 = 8 then ((b64_Size.f (-1)).bind fun t113 => (some (t113 == (-1)))) else (some false)))) else (some false)) else (some false)) else (some false))) else (some false))) else (some false))) else (some false))) else (some false))) = some true := H
  have A2 := Aside0.mk A20
  clear A20
  replace H := Option.bind_eq_some_iff.mp H
  obtain ⟨t107, A30, H⟩ := H
  replace H : (if t107.toList = ([] : List UInt8) then ((b64_Encode.f (⟨#[102]⟩ : ByteArray)).bind fun t108 => (if t108.toList = ([90, 103, 61, 61] : List UInt8) then ((b64_Encode.f (⟨#[102, 111]⟩ : ByteArray)).bind fun t109 => (if t109.toList = ([90, 109, 56, 61] : List UInt8) then ((b64_Encode.f (⟨#[102, 111, 111, 98, 97, 114]⟩ : ByteArray)).bind fun t110 => (if t110.toList = ([90, 109, 57, 118, 89, 109, 70, 121] : List UInt8) then ((b64_Encode.f (⟨#[251, 255]⟩ : ByteArray)).bind fun t111 => (if t111.toList = ([43, 47, 56, 61] : List UInt8) then (if t103.toList = ([102, 111, 111, 98] : List UInt8) then (if t104 = true then (if t106 = true then (some false) else ((b64_Size.f 4).bind fun t112 => (if t112 = 8 then ((b64_Size.f (-1)).bind fun t113 => (some (t113 == (-1)))) else (some false)))) else (some false)) else (some false)) else (some false))) else (some false))) else (some false))) else (some false))) else (some false)) = some true := H
  have A3 := Aside0.mk A30
  clear A30
  by_cases c4 : t107.toList = ([] : List UInt8)
  · rw [if_pos c4] at H
    have c4b0 : (t107.toList == ([] : List UInt8)) = true := beq_iff_eq.mpr c4
    have c4b1 : (t107.toList != ([] : List UInt8)) = false := bne_eq_false_iff_eq.mpr c4
    clear c4
    replace H := Option.bind_eq_some_iff.mp H
    obtain ⟨t108, A50, H⟩ := H
    replace H : (if t108.toList = ([90, 103, 61, 61] : List UInt8) then ((b64_Encode.f (⟨#[102, 111]⟩ : ByteArray)).bind fun t109 => (if t109.toList = ([90, 109, 56, 61] : List UInt8) then ((b64_Encode.f (⟨#[102, 111, 111, 98, 97, 114]⟩ : ByteArray)).bind fun t110 => (if t110.toList = ([90, 109, 57, 118, 89, 109, 70, 121] : List UInt8) then ((b64_Encode.f (⟨#[251, 255]⟩ : ByteArray)).bind fun t111 => (if t111.toList = ([43, 47, 56, 61] : List UInt8) then (if t103.toList = ([102, 111, 111, 98] : List UInt8) then (if t104 = true then (if t106 = true then (some false) else ((b64_Size.f 4).bind fun t112 => (if t112 = 8 then ((b64_Size.f (-1)).bind fun t113 => (some (t113 == (-1)))) else (some false)))) else (some false)) else (some false)) else (some false))) else (some false))) else (some false))) else (some false)) = some true := H
    have A5 := Aside0.mk A50
    clear A50
    by_cases c6 : t108.toList = ([90, 103, 61, 61] : List UInt8)
    · rw [if_pos c6] at H
      have c6b0 : (t108.toList == ([90, 103, 61, 61] : List UInt8)) = true := beq_iff_eq.mpr c6
      have c6b1 : (t108.toList != ([90, 103, 61, 61] : List UInt8)) = false := bne_eq_false_iff_eq.mpr c6
      clear c6
      replace H := Option.bind_eq_some_iff.mp H
      obtain ⟨t109, A70, H⟩ := H
      replace H : (if t109.toList = ([90, 109, 56, 61] : List UInt8) then ((b64_Encode.f (⟨#[102, 111, 111, 98, 97, 114]⟩ : ByteArray)).bind fun t110 => (if t110.toList = ([90, 109, 57, 118, 89, 109, 70, 121] : List UInt8) then ((b64_Encode.f (⟨#[251, 255]⟩ : ByteArray)).bind fun t111 => (if t111.toList = ([43, 47, 56, 61] : List UInt8) then (if t103.toList = ([102, 111, 111, 98] : List UInt8) then (if t104 = true then (if t106 = true then (some false) else ((b64_Size.f 4).bind fun t112 => (if t112 = 8 then ((b64_Size.f (-1)).bind fun t113 => (some (t113 == (-1)))) else (some false)))) else (some false)) else (some false)) else (some false))) else (some false))) else (some false)) = some true := H
      have A7 := Aside0.mk A70
      clear A70
      by_cases c8 : t109.toList = ([90, 109, 56, 61] : List UInt8)
      · rw [if_pos c8] at H
        have c8b0 : (t109.toList == ([90, 109, 56, 61] : List UInt8)) = true := beq_iff_eq.mpr c8
        have c8b1 : (t109.toList != ([90, 109, 56, 61] : List UInt8)) = false := bne_eq_false_iff_eq.mpr c8
        clear c8
        replace H := Option.bind_eq_some_iff.mp H
        obtain ⟨t110, A90, H⟩ := H
        replace H : (if t110.toList = ([90, 109, 57, 118, 89, 109, 70, 121] : List UInt8) then ((b64_Encode.f (⟨#[251, 255]⟩ : ByteArray)).bind fun t111 => (if t111.toList = ([43, 47, 56, 61] : List UInt8) then (if t103.toList = ([102, 111, 111, 98] : List UInt8) then (if t104 = true then (if t106 = true then (some false) else ((b64_Size.f 4).bind fun t112 => (if t112 = 8 then ((b64_Size.f (-1)).bind fun t113 => (some (t113 == (-1)))) else (some false)))) else (some false)) else (some false)) else (some false))) else (some false)) = some true := H
        have A9 := Aside0.mk A90
        clear A90
        by_cases c10 : t110.toList = ([90, 109, 57, 118, 89, 109, 70, 121] : List UInt8)
        · rw [if_pos c10] at H
          have c10b0 : (t110.toList == ([90, 109, 57, 118, 89, 109, 70, 121] : List UInt8)) = true := beq_iff_eq.mpr c10
          have c10b1 : (t110.toList != ([90, 109, 57, 118, 89, 109, 70, 121] : List UInt8)) = false := bne_eq_false_iff_eq.mpr c10
          clear c10
          replace H := Option.bind_eq_some_iff.mp H
          obtain ⟨t111, A110, H⟩ := H
          replace H : (if t111.toList = ([43, 47, 56, 61] : List UInt8) then (if t103.toList = ([102, 111, 111, 98] : List UInt8) then (if t104 = true then (if t106 = true then (some false) else ((b64_Size.f 4).bind fun t112 => (if t112 = 8 then ((b64_Size.f (-1)).bind fun t113 => (some (t113 == (-1)))) else (some false)))) else (some false)) else (some false)) else (some false)) = some true := H
          have A11 := Aside0.mk A110
          clear A110
          by_cases c12 : t111.toList = ([43, 47, 56, 61] : List UInt8)
          · rw [if_pos c12] at H
            have c12b0 : (t111.toList == ([43, 47, 56, 61] : List UInt8)) = true := beq_iff_eq.mpr c12
            have c12b1 : (t111.toList != ([43, 47, 56, 61] : List UInt8)) = false := bne_eq_false_iff_eq.mpr c12
            clear c12
            by_cases c13 : t103.toList = ([102, 111, 111, 98] : List UInt8)
            · rw [if_pos c13] at H
              have c13b0 : (t103.toList == ([102, 111, 111, 98] : List UInt8)) = true := beq_iff_eq.mpr c13
              have c13b1 : (t103.toList != ([102, 111, 111, 98] : List UInt8)) = false := bne_eq_false_iff_eq.mpr c13
              clear c13
              by_cases c14 : t104 = true
              · subst c14
                have H1 : (if t106 = true then (some false) else ((b64_Size.f 4).bind fun t112 => (if t112 = 8 then ((b64_Size.f (-1)).bind fun t113 => (some (t113 == (-1)))) else (some false)))) = some true := by rw [if_pos rfl] at H; exact H
                clear H
                have H := H1
                clear H1
                by_cases c15 : t106 = true
                · subst c15
                  have H1 : (some false) = some true := by rw [if_pos rfl] at H; exact H
                  clear H
                  have H := H1
                  clear H1
                  exact absurd H (by simp)
                · replace c15 := Bool.eq_false_iff.mpr c15
                  subst c15
                  have H1 : ((b64_Size.f 4).bind fun t112 => (if t112 = 8 then ((b64_Size.f (-1)).bind fun t113 => (some (t113 == (-1)))) else (some false))) = some true := by rw [if_neg (show ¬ (false = true) by decide)] at H; exact H
                  clear H
                  have H := H1
                  clear H1
                  replace H := Option.bind_eq_some_iff.mp H
                  obtain ⟨t112, A160, H⟩ := H
                  replace H : (if t112 = 8 then ((b64_Size.f (-1)).bind fun t113 => (some (t113 == (-1)))) else (some false)) = some true := H
                  have A16 := Aside0.mk A160
                  clear A160
                  by_cases c17 : t112 = 8
                  · rw [if_pos c17] at H
                    have c17b0 : (t112 == 8) = true := beq_iff_eq.mpr c17
                    have c17b1 : (t112 != 8) = false := bne_eq_false_iff_eq.mpr c17
                    clear c17
                    replace H := Option.bind_eq_some_iff.mp H
                    obtain ⟨t113, A180, H⟩ := H
                    replace H : (some (t113 == (-1))) = some true := H
                    have A18 := Aside0.mk A180
                    clear A180
                    have hret_ := Option.some.inj H
                    clear H
                    go_enter Tryd.func7, Tryd.ntmps7
                    go_wp2_with (first | ((with_reducible refine gate_callee (f := 8) rfl ?_); refine goesL_ (some 6) rfl rfl Tryd.func8 (by kernel_rfl) rfl #[.string (⟨#[90, 109, 57, 118, 89, 103, 61, 61]⟩ : ByteArray)] rfl (by (try simp only [List.map_toArray, List.map_cons, List.map_nil]); first | done | rfl | (simp only [List.length_drop, List.length_take]; rfl)) ?_; (with_reducible refine (b64_Decode.calls (⟨#[90, 109, 57, 118, 89, 103, 61, 61]⟩ : ByteArray) t103 true _ A1.out).mono ?_); rintro e w19 ⟨rfl, hb⟩; refine ⟨_, rfl, ?_⟩; have n0_ := Aside0.mk (below_step (by repeat (first | (with_reducible first | exact HB.out | apply below_alloc | apply pw_below_drewN | apply below_drew1) | exact HB.out)) hb); clear HB; have HB := n0_; clear n0_; (try clear hb); (try clear hb2); (try clear hk); (try clear hi)) | ((with_reducible refine gate_callee (f := 8) rfl ?_); refine goesL_ (some 10) rfl rfl Tryd.func8 (by kernel_rfl) rfl #[.string (⟨#[90, 109, 57, 118, 89, 104, 61, 61]⟩ : ByteArray)] rfl (by (try simp only [List.map_toArray, List.map_cons, List.map_nil]); first | done | rfl | (simp only [List.length_drop, List.length_take]; rfl)) ?_; (with_reducible refine (b64_Decode.calls (⟨#[90, 109, 57, 118, 89, 104, 61, 61]⟩ : ByteArray) t105 false _ A2.out).mono ?_); rintro e w20 ⟨rfl, hb⟩; refine ⟨_, rfl, ?_⟩; have n0_ := Aside0.mk (below_step (by repeat (first | (with_reducible first | exact HB.out | apply below_alloc | apply pw_below_drewN | apply below_drew1) | exact HB.out)) hb); clear HB; have HB := n0_; clear n0_; (try clear hb); (try clear hb2); (try clear hk); (try clear hi)) | ((with_reducible refine gate_callee (f := 10) rfl ?_); refine goesL_ (some 13) rfl rfl Tryd.func10 (by kernel_rfl) rfl #[.string (⟨#[]⟩ : ByteArray)] rfl (by (try simp only [List.map_toArray, List.map_cons, List.map_nil]); first | done | rfl | (simp only [List.length_drop, List.length_take]; rfl)) ?_; (with_reducible refine (b64_Encode.calls (⟨#[]⟩ : ByteArray) t107 _ A3.out).mono ?_); rintro e w21 ⟨rfl, hb⟩; refine ⟨_, rfl, ?_⟩; have n0_ := Aside0.mk (below_step (by repeat (first | (with_reducible first | exact HB.out | apply below_alloc | apply pw_below_drewN | apply below_drew1) | exact HB.out)) hb); clear HB; have HB := n0_; clear n0_; (try clear hb); (try clear hb2); (try clear hk); (try clear hi)) | (go_at_call 10; (with_reducible refine (b64_Encode.calls (⟨#[102]⟩ : ByteArray) t108 _ A5.out).mono ?_); rintro e w22 ⟨rfl, hb⟩; have n0_ := Aside0.mk (below_step (by repeat (first | (with_reducible first | exact HB.out | apply below_alloc | apply pw_below_drewN | apply below_drew1) | exact HB.out)) hb); clear HB; have HB := n0_; clear n0_; (try clear hb); (try clear hb2); (try clear hk); (try clear hi)) | (go_at_call 10; (with_reducible refine (b64_Encode.calls (⟨#[102, 111]⟩ : ByteArray) t109 _ A7.out).mono ?_); rintro e w23 ⟨rfl, hb⟩; have n0_ := Aside0.mk (below_step (by repeat (first | (with_reducible first | exact HB.out | apply below_alloc | apply pw_below_drewN | apply below_drew1) | exact HB.out)) hb); clear HB; have HB := n0_; clear n0_; (try clear hb); (try clear hb2); (try clear hk); (try clear hi)) | (go_at_call 10; (with_reducible refine (b64_Encode.calls (⟨#[102, 111, 111, 98, 97, 114]⟩ : ByteArray) t110 _ A9.out).mono ?_); rintro e w24 ⟨rfl, hb⟩; have n0_ := Aside0.mk (below_step (by repeat (first | (with_reducible first | exact HB.out | apply below_alloc | apply pw_below_drewN | apply below_drew1) | exact HB.out)) hb); clear HB; have HB := n0_; clear n0_; (try clear hb); (try clear hb2); (try clear hk); (try clear hi)) | (go_at_call 10; (with_reducible refine (b64_Encode.calls (⟨#[251, 255]⟩ : ByteArray) t111 _ A11.out).mono ?_); rintro e w25 ⟨rfl, hb⟩; have n0_ := Aside0.mk (below_step (by repeat (first | (with_reducible first | exact HB.out | apply below_alloc | apply pw_below_drewN | apply below_drew1) | exact HB.out)) hb); clear HB; have HB := n0_; clear n0_; (try clear hb); (try clear hb2); (try clear hk); (try clear hi)) | (go_at_call 12; (with_reducible refine (b64_Size.calls 4 t112 _ A16.out).mono ?_); rintro e w' ⟨rfl, ⟨nd, rfl⟩⟩) | (go_at_call 12; (with_reducible refine (b64_Size.calls (-1) t113 _ A18.out).mono ?_); rintro e w' ⟨rfl, ⟨nd, rfl⟩⟩))
                    go_ret
                    exact ⟨by first | rfl | (simp [errW_none, errW_some] <;> rfl) | (simp [*, errW_none, errW_some] <;> rfl), by repeat (first | (with_reducible first | exact HB.out | apply below_alloc | apply pw_below_drewN | apply below_drew1) | exact HB.out)⟩
                  · rw [if_neg c17] at H
                    have c17b0 : (t112 == 8) = false := beq_eq_false_iff_ne.mpr c17
                    have c17b1 : (t112 != 8) = true := bne_iff_ne.mpr c17
                    exact absurd H (by simp)
              · replace c14 := Bool.eq_false_iff.mpr c14
                subst c14
                have H1 : (some false) = some true := by rw [if_neg (show ¬ (false = true) by decide)] at H; exact H
                clear H
                have H := H1
                clear H1
                exact absurd H (by simp)
            · rw [if_neg c13] at H
              have c13b0 : (t103.toList == ([102, 111, 111, 98] : List UInt8)) = false := beq_eq_false_iff_ne.mpr c13
              have c13b1 : (t103.toList != ([102, 111, 111, 98] : List UInt8)) = true := bne_iff_ne.mpr c13
              exact absurd H (by simp)
          · rw [if_neg c12] at H
            have c12b0 : (t111.toList == ([43, 47, 56, 61] : List UInt8)) = false := beq_eq_false_iff_ne.mpr c12
            have c12b1 : (t111.toList != ([43, 47, 56, 61] : List UInt8)) = true := bne_iff_ne.mpr c12
            exact absurd H (by simp)
        · rw [if_neg c10] at H
          have c10b0 : (t110.toList == ([90, 109, 57, 118, 89, 109, 70, 121] : List UInt8)) = false := beq_eq_false_iff_ne.mpr c10
          have c10b1 : (t110.toList != ([90, 109, 57, 118, 89, 109, 70, 121] : List UInt8)) = true := bne_iff_ne.mpr c10
          exact absurd H (by simp)
      · rw [if_neg c8] at H
        have c8b0 : (t109.toList == ([90, 109, 56, 61] : List UInt8)) = false := beq_eq_false_iff_ne.mpr c8
        have c8b1 : (t109.toList != ([90, 109, 56, 61] : List UInt8)) = true := bne_iff_ne.mpr c8
        exact absurd H (by simp)
    · rw [if_neg c6] at H
      have c6b0 : (t108.toList == ([90, 103, 61, 61] : List UInt8)) = false := beq_eq_false_iff_ne.mpr c6
      have c6b1 : (t108.toList != ([90, 103, 61, 61] : List UInt8)) = true := bne_iff_ne.mpr c6
      exact absurd H (by simp)
  · rw [if_neg c4] at H
    have c4b0 : (t107.toList == ([] : List UInt8)) = false := beq_eq_false_iff_ne.mpr c4
    have c4b1 : (t107.toList != ([] : List UInt8)) = true := bne_iff_ne.mpr c4
    exact absurd H (by simp)
mutual
def armadalaw13_B64Back.j0 : Nat → ByteArray → ByteArray → Bool → Option (Bool)
  | 0, _, _, _ => none
  | k + 1, x0, x1, x17 => if x17 = true then ((armadalaw13_live.f).bind fun t142 => (some t142)) else ((b64_Encode.f x0).bind fun t143 => ((b64_Decode.f t143).bind fun bt144 => (if bt144.2 = true then (if bt144.1.toList = x0.toList then ((b64_Size.f (x0.size : Int)).bind fun t146 => (armadalaw13_B64Back.j1 k x0 x1 t143 ((t143.size : Int) != t146))) else (armadalaw13_B64Back.j1 k x0 x1 t143 true)) else (armadalaw13_B64Back.j1 k x0 x1 t143 true))))
def armadalaw13_B64Back.j1 : Nat → ByteArray → ByteArray → ByteArray → Bool → Option (Bool)
  | 0, _, _, _, _ => none
  | k + 1, x0, x1, x5, x40 => if x40 = true then (some false) else ((b64_Decode.f x1).bind fun bt147 => (if bt147.2 = true then ((b64_Encode.f bt147.1).bind fun t149 => (armadalaw13_B64Back.j2 k x0 x1 x5 (t149.toList != x1.toList))) else (armadalaw13_B64Back.j2 k x0 x1 x5 false)))
def armadalaw13_B64Back.j2 : Nat → ByteArray → ByteArray → ByteArray → Bool → Option (Bool)
  | 0, _, _, _, _ => none
  | k + 1, x0, x1, x5, x52 => if x52 = true then (some false) else (if ((x0.size : Int) % 3) = 0 then (if x0.size + x1.size ≤ 9223372036854775807 then ((b64_Encode.f (x0 ++ x1)).bind fun t150 => ((b64_Encode.f x1).bind fun t151 => (if x5.size + t151.size ≤ 9223372036854775807 then (if t150.toList = (x5 ++ t151).toList then ((armadalaw13_live.f).bind fun t152 => (some t152)) else (some false)) else (none)))) else (none)) else ((armadalaw13_live.f).bind fun t153 => (some t153)))
end
def armadalaw13_B64Back.f (k : Nat) (a0 : ByteArray) (a1 : ByteArray) : Option (Bool) := if (a0.size : Int) > 4000 then (armadalaw13_B64Back.j0 k a0 a1 true) else (armadalaw13_B64Back.j0 k a0 a1 (decide ((a1.size : Int) > 4000)))
set_option maxHeartbeats 8000000 in
set_option maxRecDepth 100000 in
theorem armadalaw13_B64Back.calls (k : Nat) (a0 : ByteArray) (a1 : ByteArray) (r : Bool) (w : World) (h : armadalaw13_B64Back.f k a0 a1 = some r) (hT_ : r = true := by rfl) :
    Calls Tryd.prog 4 #[.string a0, .string a1] w fun e w' => e = .returned (.bool r) ∧ Below w.heap.size w w' := by
  subst hT_
  have HB := Aside0.mk (Below.refl w.heap.size w)
  have H : (if (a0.size : Int) > 4000 then (armadalaw13_B64Back.j0 k a0 a1 true) else (armadalaw13_B64Back.j0 k a0 a1 (decide ((a1.size : Int) > 4000)))) = some true := h
  clear h
  have HC3 := Aside0.mk H
  clear H
  go_enter Tryd.func4, Tryd.ntmps4
  go_upto_region 1 with (fail)
  go_cut [17] (fun v17 wc => ∃ (kq : Nat) (x17_2 : Bool), v17 = .bool x17_2 ∧ Aside0 (armadalaw13_B64Back.j0 kq a0 a1 x17_2 = some true) ∧ Aside0 (kq ≤ k) ∧ Aside0 (Below w.heap.size w wc))
  case first =>
    have H := HC3.out
    clear HC3
    by_cases c4 : (a0.size : Int) > 4000
    · rw [if_pos c4] at H
      have c4b0 : decide (4000 < (a0.size : Int)) = true := decide_eq_true c4
      have c4b1 : decide (4000 < a0.size) = true := decide_eq_true (by omega)
      clear c4
      (first | rw [c4b0] | (simp only [i64_w, i32_w]; rw [c4b0]) | skip)
      have H' := Aside0.mk H
      clear H
      go_wp2
      go_meet
      case rel => exact ⟨_, (true), (by first | rfl | (simp; done) | (simp [*]; done)), H', ⟨by first | omega | exact Nat.le_refl _⟩, ⟨by repeat (first | (with_reducible first | exact HB.out | apply below_alloc | apply pw_below_drewN | apply below_drew1) | exact HB.out)⟩⟩
    · rw [if_neg c4] at H
      have c4b0 : decide (4000 < (a0.size : Int)) = false := decide_eq_false c4
      have c4b1 : decide (4000 < a0.size) = false := decide_eq_false (by omega)
      clear c4
      (first | rw [c4b0] | (simp only [i64_w, i32_w]; rw [c4b0]) | skip)
      have H' := Aside0.mk H
      clear H
      go_wp2
      go_meet
      case rel => exact ⟨_, (decide ((a1.size : Int) > 4000)), (by first | rfl | (simp; done) | (simp [*]; done)), H', ⟨by first | omega | exact Nat.le_refl _⟩, ⟨by repeat (first | (with_reducible first | exact HB.out | apply below_alloc | apply pw_below_drewN | apply below_drew1) | exact HB.out)⟩⟩
  case rest =>
    clear HC3
    try clear p2
    try clear c4
    try clear c4b0
    try clear c4b1
    obtain ⟨kq, x17_2, rfl, HA, HJ2, HB⟩ := hcut
    cases kq with
    | zero => exact absurd HA.out (by simp [armadalaw13_B64Back.j0])
    | succ kj2 =>
      have H := HA.out
      clear HA
      simp only [armadalaw13_B64Back.j0] at H
      by_cases c5 : x17_2 = true
      · subst c5
        have H1 : ((armadalaw13_live.f).bind fun t142 => (some t142)) = some true := by rw [if_pos rfl] at H; exact H
        clear H
        have H := H1
        clear H1
        replace H := Option.bind_eq_some_iff.mp H
        obtain ⟨t142, A60, H⟩ := H
        replace H : (some t142) = some true := H
        have A6 := Aside0.mk A60
        clear A60
        obtain rfl := Option.some.inj H
        go_wp2_with (first | ((with_reducible refine gate_callee (f := 7) rfl ?_); refine goesL_ (some 18) rfl rfl Tryd.func7 (by kernel_rfl) rfl #[] rfl (by (try simp only [List.map_toArray, List.map_cons, List.map_nil]); first | done | rfl | (simp only [List.length_drop, List.length_take]; rfl)) ?_; (with_reducible refine (armadalaw13_live.calls  true _ A6.out).mono ?_); rintro e w7 ⟨rfl, hb⟩; refine ⟨_, rfl, ?_⟩; have n0_ := Aside0.mk (below_step (by repeat (first | (with_reducible first | exact HB.out | apply below_alloc | apply pw_below_drewN | apply below_drew1) | exact HB.out)) hb); clear HB; have HB := n0_; clear n0_; (try clear hb); (try clear hb2); (try clear hk); (try clear hi)))
        go_ret
        exact ⟨by first | rfl | (simp [errW_none, errW_some] <;> rfl) | (simp [*, errW_none, errW_some] <;> rfl), by repeat (first | (with_reducible first | exact HB.out | apply below_alloc | apply pw_below_drewN | apply below_drew1) | exact HB.out)⟩
      · replace c5 := Bool.eq_false_iff.mpr c5
        subst c5
        have H1 : ((b64_Encode.f a0).bind fun t143 => ((b64_Decode.f t143).bind fun bt144 => (if bt144.2 = true then (if bt144.1.toList = a0.toList then ((b64_Size.f (a0.size : Int)).bind fun t146 => (armadalaw13_B64Back.j1 kj2 a0 a1 t143 ((t143.size : Int) != t146))) else (armadalaw13_B64Back.j1 kj2 a0 a1 t143 true)) else (armadalaw13_B64Back.j1 kj2 a0 a1 t143 true)))) = some true := by rw [if_neg (show ¬ (false = true) by decide)] at H; exact H
        clear H
        have H := H1
        clear H1
        replace H := Option.bind_eq_some_iff.mp H
        obtain ⟨t143, A80, H⟩ := H
        replace H : ((b64_Decode.f t143).bind fun bt144 => (if bt144.2 = true then (if bt144.1.toList = a0.toList then ((b64_Size.f (a0.size : Int)).bind fun t146 => (armadalaw13_B64Back.j1 kj2 a0 a1 t143 ((t143.size : Int) != t146))) else (armadalaw13_B64Back.j1 kj2 a0 a1 t143 true)) else (armadalaw13_B64Back.j1 kj2 a0 a1 t143 true))) = some true := H
        have A8 := Aside0.mk A80
        clear A80
        replace H := Option.bind_eq_some_iff.mp H
        obtain ⟨⟨t144, t145⟩, A90, H⟩ := H
        replace H : (if t145 = true then (if t144.toList = a0.toList then ((b64_Size.f (a0.size : Int)).bind fun t146 => (armadalaw13_B64Back.j1 kj2 a0 a1 t143 ((t143.size : Int) != t146))) else (armadalaw13_B64Back.j1 kj2 a0 a1 t143 true)) else (armadalaw13_B64Back.j1 kj2 a0 a1 t143 true)) = some true := H
        have A9 := Aside0.mk A90
        clear A90
        have HC10 := Aside0.mk H
        clear H
        go_upto_region 5 with (first | ((with_reducible refine gate_callee (f := 10) rfl ?_); refine goesL_ (some 20) rfl rfl Tryd.func10 (by kernel_rfl) rfl #[.string a0] rfl (by (try simp only [List.map_toArray, List.map_cons, List.map_nil]); first | done | rfl | (simp only [List.length_drop, List.length_take]; rfl)) ?_; (with_reducible refine (b64_Encode.calls a0 t143 _ A8.out).mono ?_); rintro e w11 ⟨rfl, hb⟩; refine ⟨_, rfl, ?_⟩; have n0_ := Aside0.mk (below_step (by repeat (first | (with_reducible first | exact HB.out | apply below_alloc | apply pw_below_drewN | apply below_drew1) | exact HB.out)) hb); clear HB; have HB := n0_; clear n0_; (try clear hb); (try clear hb2); (try clear hk); (try clear hi)) | ((with_reducible refine gate_callee (f := 8) rfl ?_); refine goesL_ (some 23) rfl rfl Tryd.func8 (by kernel_rfl) rfl #[.string t143] rfl (by (try simp only [List.map_toArray, List.map_cons, List.map_nil]); first | done | rfl | (simp only [List.length_drop, List.length_take]; rfl)) ?_; (with_reducible refine (b64_Decode.calls t143 t144 t145 _ A9.out).mono ?_); rintro e w12 ⟨rfl, hb⟩; refine ⟨_, rfl, ?_⟩; have n0_ := Aside0.mk (below_step (by repeat (first | (with_reducible first | exact HB.out | apply below_alloc | apply pw_below_drewN | apply below_drew1) | exact HB.out)) hb); clear HB; have HB := n0_; clear n0_; (try clear hb); (try clear hb2); (try clear hk); (try clear hi)))
        (try simp only [Act.put, List.setIfInBounds_toArray, List.set_cons_zero, List.set_cons_succ])
        go_cut [40] (fun v40 wc => ∃ (kq : Nat) (x40_9 : Bool), v40 = .bool x40_9 ∧ Aside0 (armadalaw13_B64Back.j1 kq a0 a1 t143 x40_9 = some true) ∧ Aside0 (kq ≤ kj2) ∧ Aside0 (Below w.heap.size w wc))
        case first =>
          have H := HC10.out
          clear HC10
          by_cases c13 : t145 = true
          · subst c13
            have H1 : (if t144.toList = a0.toList then ((b64_Size.f (a0.size : Int)).bind fun t146 => (armadalaw13_B64Back.j1 kj2 a0 a1 t143 ((t143.size : Int) != t146))) else (armadalaw13_B64Back.j1 kj2 a0 a1 t143 true)) = some true := by rw [if_pos rfl] at H; exact H
            clear H
            have H := H1
            clear H1
            by_cases c14 : t144.toList = a0.toList
            · rw [if_pos c14] at H
              have c14b0 : (t144.toList == a0.toList) = true := beq_iff_eq.mpr c14
              have c14b1 : (t144.toList != a0.toList) = false := bne_eq_false_iff_eq.mpr c14
              clear c14
              (first | rw [c14b0] | (simp only [i64_w, i32_w]; rw [c14b0]) | skip)
              replace H := Option.bind_eq_some_iff.mp H
              obtain ⟨t146, A150, H⟩ := H
              replace H : (armadalaw13_B64Back.j1 kj2 a0 a1 t143 ((t143.size : Int) != t146)) = some true := H
              have A15 := Aside0.mk A150
              clear A150
              have H' := Aside0.mk H
              clear H
              go_wp2_with (first | (go_at_call 12; (with_reducible refine (b64_Size.calls (a0.size : Int) t146 _ A15.out).mono ?_); rintro e w' ⟨rfl, ⟨nd, rfl⟩⟩))
              go_meet
              case rel => exact ⟨_, (((t143.size : Int) != t146)), (by first | rfl | (simp; done) | (simp [*]; done)), H', ⟨by have := HJ2.out; first | omega | exact Nat.le_refl _⟩, ⟨by repeat (first | (with_reducible first | exact HB.out | apply below_alloc | apply pw_below_drewN | apply below_drew1) | exact HB.out)⟩⟩
            · rw [if_neg c14] at H
              have c14b0 : (t144.toList == a0.toList) = false := beq_eq_false_iff_ne.mpr c14
              have c14b1 : (t144.toList != a0.toList) = true := bne_iff_ne.mpr c14
              (first | rw [c14b0] | (simp only [i64_w, i32_w]; rw [c14b0]) | skip)
              have H' := Aside0.mk H
              clear H
              go_wp2
              go_meet
              case rel => exact ⟨_, (true), (by first | rfl | (simp; done) | (simp [*]; done)), H', ⟨by have := HJ2.out; first | omega | exact Nat.le_refl _⟩, ⟨by repeat (first | (with_reducible first | exact HB.out | apply below_alloc | apply pw_below_drewN | apply below_drew1) | exact HB.out)⟩⟩
          · replace c13 := Bool.eq_false_iff.mpr c13
            subst c13
            have H1 : (armadalaw13_B64Back.j1 kj2 a0 a1 t143 true) = some true := by rw [if_neg (show ¬ (false = true) by decide)] at H; exact H
            clear H
            have H := H1
            clear H1
            have H' := Aside0.mk H
            clear H
            go_wp2
            go_meet
            case rel => exact ⟨_, (true), (by first | rfl | (simp; done) | (simp [*]; done)), H', ⟨by have := HJ2.out; first | omega | exact Nat.le_refl _⟩, ⟨by repeat (first | (with_reducible first | exact HB.out | apply below_alloc | apply pw_below_drewN | apply below_drew1) | exact HB.out)⟩⟩
        case rest =>
          clear HC10
          try clear c1
          try clear p2
          try clear c4
          try clear c4b0
          try clear c4b1
          try clear c5
          try clear c7
          try clear c8
          try clear c10
          try clear c13
          try clear c14
          try clear c14b0
          try clear c14b1
          try clear p2
          obtain ⟨kq, x40_9, rfl, HA, HJ9, HB⟩ := hcut
          cases kq with
          | zero => exact absurd HA.out (by simp [armadalaw13_B64Back.j1])
          | succ kj9 =>
            have H := HA.out
            clear HA
            simp only [armadalaw13_B64Back.j1] at H
            by_cases c16 : x40_9 = true
            · subst c16
              have H1 : (some false) = some true := by rw [if_pos rfl] at H; exact H
              clear H
              have H := H1
              clear H1
              exact absurd H (by simp)
            · replace c16 := Bool.eq_false_iff.mpr c16
              subst c16
              have H1 : ((b64_Decode.f a1).bind fun bt147 => (if bt147.2 = true then ((b64_Encode.f bt147.1).bind fun t149 => (armadalaw13_B64Back.j2 kj9 a0 a1 t143 (t149.toList != a1.toList))) else (armadalaw13_B64Back.j2 kj9 a0 a1 t143 false))) = some true := by rw [if_neg (show ¬ (false = true) by decide)] at H; exact H
              clear H
              have H := H1
              clear H1
              replace H := Option.bind_eq_some_iff.mp H
              obtain ⟨⟨t147, t148⟩, A170, H⟩ := H
              replace H : (if t148 = true then ((b64_Encode.f t147).bind fun t149 => (armadalaw13_B64Back.j2 kj9 a0 a1 t143 (t149.toList != a1.toList))) else (armadalaw13_B64Back.j2 kj9 a0 a1 t143 false)) = some true := H
              have A17 := Aside0.mk A170
              clear A170
              have HC18 := Aside0.mk H
              clear H
              go_upto_region 8 with (first | ((with_reducible refine gate_callee (f := 8) rfl ?_); refine goesL_ (some 43) rfl rfl Tryd.func8 (by kernel_rfl) rfl #[.string a1] rfl (by (try simp only [List.map_toArray, List.map_cons, List.map_nil]); first | done | rfl | (simp only [List.length_drop, List.length_take]; rfl)) ?_; (with_reducible refine (b64_Decode.calls a1 t147 t148 _ A17.out).mono ?_); rintro e w19 ⟨rfl, hb⟩; refine ⟨_, rfl, ?_⟩; have n0_ := Aside0.mk (below_step (by repeat (first | (with_reducible first | exact HB.out | apply below_alloc | apply pw_below_drewN | apply below_drew1) | exact HB.out)) hb); clear HB; have HB := n0_; clear n0_; (try clear hb); (try clear hb2); (try clear hk); (try clear hi)))
              (try simp only [Act.put, List.setIfInBounds_toArray, List.set_cons_zero, List.set_cons_succ])
              go_cut [52] (fun v52 wc => ∃ (kq : Nat) (x52_17 : Bool), v52 = .bool x52_17 ∧ Aside0 (armadalaw13_B64Back.j2 kq a0 a1 t143 x52_17 = some true) ∧ Aside0 (kq ≤ kj9) ∧ Aside0 (Below w.heap.size w wc))
              case first =>
                have H := HC18.out
                clear HC18
                by_cases c20 : t148 = true
                · subst c20
                  have H1 : ((b64_Encode.f t147).bind fun t149 => (armadalaw13_B64Back.j2 kj9 a0 a1 t143 (t149.toList != a1.toList))) = some true := by rw [if_pos rfl] at H; exact H
                  clear H
                  have H := H1
                  clear H1
                  replace H := Option.bind_eq_some_iff.mp H
                  obtain ⟨t149, A210, H⟩ := H
                  replace H : (armadalaw13_B64Back.j2 kj9 a0 a1 t143 (t149.toList != a1.toList)) = some true := H
                  have A21 := Aside0.mk A210
                  clear A210
                  have H' := Aside0.mk H
                  clear H
                  go_wp2_with (first | (go_at_call 10; (with_reducible refine (b64_Encode.calls t147 t149 _ A21.out).mono ?_); rintro e w22 ⟨rfl, hb⟩; have n0_ := Aside0.mk (below_step (by repeat (first | (with_reducible first | exact HB.out | apply below_alloc | apply pw_below_drewN | apply below_drew1) | exact HB.out)) hb); clear HB; have HB := n0_; clear n0_; (try clear hb); (try clear hb2); (try clear hk); (try clear hi)))
                  go_meet
                  case rel => exact ⟨_, ((t149.toList != a1.toList)), (by first | rfl | (simp; done) | (simp [*]; done)), H', ⟨by have := HJ2.out; have := HJ9.out; first | omega | exact Nat.le_refl _⟩, ⟨by repeat (first | (with_reducible first | exact HB.out | apply below_alloc | apply pw_below_drewN | apply below_drew1) | exact HB.out)⟩⟩
                · replace c20 := Bool.eq_false_iff.mpr c20
                  subst c20
                  have H1 : (armadalaw13_B64Back.j2 kj9 a0 a1 t143 false) = some true := by rw [if_neg (show ¬ (false = true) by decide)] at H; exact H
                  clear H
                  have H := H1
                  clear H1
                  have H' := Aside0.mk H
                  clear H
                  go_wp2
                  go_meet
                  case rel => exact ⟨_, (false), (by first | rfl | (simp; done) | (simp [*]; done)), H', ⟨by have := HJ2.out; have := HJ9.out; first | omega | exact Nat.le_refl _⟩, ⟨by repeat (first | (with_reducible first | exact HB.out | apply below_alloc | apply pw_below_drewN | apply below_drew1) | exact HB.out)⟩⟩
              case rest =>
                clear HC18
                try clear c1
                try clear c2
                try clear p2
                try clear c4
                try clear c4b0
                try clear c4b1
                try clear c5
                try clear c7
                try clear c8
                try clear c10
                try clear c13
                try clear c14
                try clear c14b0
                try clear c14b1
                try clear c16
                try clear c20
                try clear p2
                obtain ⟨kq, x52_17, rfl, HA, HJ17, HB⟩ := hcut
                cases kq with
                | zero => exact absurd HA.out (by simp [armadalaw13_B64Back.j2])
                | succ kj17 =>
                  have H := HA.out
                  clear HA
                  simp only [armadalaw13_B64Back.j2] at H
                  by_cases c23 : x52_17 = true
                  · subst c23
                    have H1 : (some false) = some true := by rw [if_pos rfl] at H; exact H
                    clear H
                    have H := H1
                    clear H1
                    exact absurd H (by simp)
                  · replace c23 := Bool.eq_false_iff.mpr c23
                    subst c23
                    have H1 : (if ((a0.size : Int) % 3) = 0 then (if a0.size + a1.size ≤ 9223372036854775807 then ((b64_Encode.f (a0 ++ a1)).bind fun t150 => ((b64_Encode.f a1).bind fun t151 => (if t143.size + t151.size ≤ 9223372036854775807 then (if t150.toList = (t143 ++ t151).toList then ((armadalaw13_live.f).bind fun t152 => (some t152)) else (some false)) else (none)))) else (none)) else ((armadalaw13_live.f).bind fun t153 => (some t153))) = some true := by rw [if_neg (show ¬ (false = true) by decide)] at H; exact H
                    clear H
                    have H := H1
                    clear H1
                    by_cases c24 : ((a0.size : Int) % 3) = 0
                    · rw [if_pos c24] at H
                      have c24b0 : (((a0.size : Int) % 3) == 0) = true := beq_iff_eq.mpr c24
                      have c24b1 : (((a0.size : Int) % 3) != 0) = false := bne_eq_false_iff_eq.mpr c24
                      clear c24
                      by_cases c25 : a0.size + a1.size ≤ 9223372036854775807
                      · rw [if_pos c25] at H
                        have c25b0 := eq_true c25
                        have c25b1 : decide (a0.size + a1.size ≤ 9223372036854775807) = true := decide_eq_true c25
                        try have c25b2 : (9223372036854775807 < a0.size + a1.size) = False := eq_false (Nat.not_lt.2 c25)
                        replace H := Option.bind_eq_some_iff.mp H
                        obtain ⟨t150, A260, H⟩ := H
                        replace H : ((b64_Encode.f a1).bind fun t151 => (if t143.size + t151.size ≤ 9223372036854775807 then (if t150.toList = (t143 ++ t151).toList then ((armadalaw13_live.f).bind fun t152 => (some t152)) else (some false)) else (none))) = some true := H
                        have A26 := Aside0.mk A260
                        clear A260
                        replace H := Option.bind_eq_some_iff.mp H
                        obtain ⟨t151, A270, H⟩ := H
                        replace H : (if t143.size + t151.size ≤ 9223372036854775807 then (if t150.toList = (t143 ++ t151).toList then ((armadalaw13_live.f).bind fun t152 => (some t152)) else (some false)) else (none)) = some true := H
                        have A27 := Aside0.mk A270
                        clear A270
                        by_cases c28 : t143.size + t151.size ≤ 9223372036854775807
                        · rw [if_pos c28] at H
                          have c28b0 := eq_true c28
                          have c28b1 : decide (t143.size + t151.size ≤ 9223372036854775807) = true := decide_eq_true c28
                          try have c28b2 : (9223372036854775807 < t143.size + t151.size) = False := eq_false (Nat.not_lt.2 c28)
                          by_cases c29 : t150.toList = (t143 ++ t151).toList
                          · rw [if_pos c29] at H
                            have c29b0 : (t150.toList == (t143 ++ t151).toList) = true := beq_iff_eq.mpr c29
                            have c29b1 : (t150.toList != (t143 ++ t151).toList) = false := bne_eq_false_iff_eq.mpr c29
                            clear c29
                            replace H := Option.bind_eq_some_iff.mp H
                            obtain ⟨t152, A300, H⟩ := H
                            replace H : (some t152) = some true := H
                            have A30 := Aside0.mk A300
                            clear A300
                            obtain rfl := Option.some.inj H
                            go_wp2_with (first | (go_at_call 10; (with_reducible refine (b64_Encode.calls (a0 ++ a1) t150 _ A26.out).mono ?_); rintro e w31 ⟨rfl, hb⟩; have n0_ := Aside0.mk (below_step (by repeat (first | (with_reducible first | exact HB.out | apply below_alloc | apply pw_below_drewN | apply below_drew1) | exact HB.out)) hb); clear HB; have HB := n0_; clear n0_; (try clear hb); (try clear hb2); (try clear hk); (try clear hi)) | (go_at_call 10; (with_reducible refine (b64_Encode.calls a1 t151 _ A27.out).mono ?_); rintro e w32 ⟨rfl, hb⟩; have n0_ := Aside0.mk (below_step (by repeat (first | (with_reducible first | exact HB.out | apply below_alloc | apply pw_below_drewN | apply below_drew1) | exact HB.out)) hb); clear HB; have HB := n0_; clear n0_; (try clear hb); (try clear hb2); (try clear hk); (try clear hi)) | (go_at_call 7; (with_reducible refine (armadalaw13_live.calls  true _ A30.out).mono ?_); rintro e w33 ⟨rfl, hb⟩; have n0_ := Aside0.mk (below_step (by repeat (first | (with_reducible first | exact HB.out | apply below_alloc | apply pw_below_drewN | apply below_drew1) | exact HB.out)) hb); clear HB; have HB := n0_; clear n0_; (try clear hb); (try clear hb2); (try clear hk); (try clear hi)))
                            go_ret
                            exact ⟨by first | rfl | (simp [errW_none, errW_some] <;> rfl) | (simp [*, errW_none, errW_some] <;> rfl), by repeat (first | (with_reducible first | exact HB.out | apply below_alloc | apply pw_below_drewN | apply below_drew1) | exact HB.out)⟩
                          · rw [if_neg c29] at H
                            have c29b0 : (t150.toList == (t143 ++ t151).toList) = false := beq_eq_false_iff_ne.mpr c29
                            have c29b1 : (t150.toList != (t143 ++ t151).toList) = true := bne_iff_ne.mpr c29
                            exact absurd H (by simp)
                        · rw [if_neg c28] at H
                          exact absurd H (by simp)
                      · rw [if_neg c25] at H
                        exact absurd H (by simp)
                    · rw [if_neg c24] at H
                      have c24b0 : (((a0.size : Int) % 3) == 0) = false := beq_eq_false_iff_ne.mpr c24
                      have c24b1 : (((a0.size : Int) % 3) != 0) = true := bne_iff_ne.mpr c24
                      replace H := Option.bind_eq_some_iff.mp H
                      obtain ⟨t153, A340, H⟩ := H
                      replace H : (some t153) = some true := H
                      have A34 := Aside0.mk A340
                      clear A340
                      obtain rfl := Option.some.inj H
                      go_wp2_with (first | (go_at_call 7; (with_reducible refine (armadalaw13_live.calls  true _ A34.out).mono ?_); rintro e w35 ⟨rfl, hb⟩; have n0_ := Aside0.mk (below_step (by repeat (first | (with_reducible first | exact HB.out | apply below_alloc | apply pw_below_drewN | apply below_drew1) | exact HB.out)) hb); clear HB; have HB := n0_; clear n0_; (try clear hb); (try clear hb2); (try clear hk); (try clear hi)))
                      go_ret
                      exact ⟨by first | rfl | (simp [errW_none, errW_some] <;> rfl) | (simp [*, errW_none, errW_some] <;> rfl), by repeat (first | (with_reducible first | exact HB.out | apply below_alloc | apply pw_below_drewN | apply below_drew1) | exact HB.out)⟩
/-- THE ONE PURE STATEMENT of armadalaw13_B64Back: yours. -/
def armadalaw13_B64Back.Pure : Prop := ∀ (a0 : ByteArray) (a1 : ByteArray), a0.size ≤ 140737488351232 → a1.size ≤ 140737488351232 → ∃ k, armadalaw13_B64Back.f k a0 a1 = some true
end Go.Proofs.YtjmomhicemjilaaDoor.P
