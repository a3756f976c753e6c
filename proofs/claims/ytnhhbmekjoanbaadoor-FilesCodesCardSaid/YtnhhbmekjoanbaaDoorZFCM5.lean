/- Printed functions, merged. -/
import Derived.Test.YtnhhbmekjoanbaaDoorZFCM0
import Derived.Test.YtnhhbmekjoanbaaDoorZFCM4
import Derived.Test.YtnhhbmekjoanbaaDoorZFCH6
import Derived.Test.YtnhhbmekjoanbaaDoorZFCH5
import Derived.Test.YtnhhbmekjoanbaaDoorZFCM2
import Derived.Test.YtnhhbmekjoanbaaDoorZFCAl
namespace Go.Proofs.YtnhhbmekjoanbaaDoor.P
open Go.RowKit Go.Proofs.YtnhhbmekjoanbaaDoorW.PrintWords Go.Proofs.YtnhhbmekjoanbaaDoorW.PrintLast Go.Proofs.YtnhhbmekjoanbaaDoorW.PrintMore
attribute [local go_sem] max2_int min2_int max_two min_two max_three min_three max_four min_four   -- for this text's walks alone
set_option linter.unusedVariables false
set_option linter.unusedSimpArgs false
section
attribute [local go_sem high] eqA45
def armadalaw05_live.j0 : Nat → List (S49) → Int → Int → Int → ByteArray → Int → List (S45) → Int → Int → ByteArray → Bool → Bool → Option (Bool)
 | 0, _, _, _, _, _, _, _, _, _, _, _, _ => none
 | k + 1, x1, x2, x4, x6, x7, x8, x9, x10, x12, x13, x14, x68 => if x68 = true then (some false) else ((files_Diff.f x1 (([(⟨(⟨#[98]⟩ : ByteArray), (⟨#[51]⟩ : ByteArray)⟩ : S49)] : List (S49)))).bind fun t171 => (if x2 = 0 then (if x4 = 5 then (if x6 = 6 then (if x8 = 0 then (if x10 = 0 then (if x12 = 1 then (if x13.toList = ([51] : List UInt8) then (if x14 = true then (if x7.toList = ([0, 1, 98, 0, 2, 50, 50, 1, 1, 97] : List UInt8) then (if 1 < (x9.length : Int) then (if (((rd_T45 x9 1).f0) && ((((rd_T45 x9 1).f1).toList) == ([97] : List UInt8) && ((((rd_T45 x9 1).f2).toList) == ([] : List UInt8)))) = true then (if (t171.length : Int) = 1 then (if 0 < (t171.length : Int) then (if (((rd_T45 t171 0).f0) && ((((rd_T45 t171 0).f1).toList) == ([97, 47, 120] : List UInt8) && ((((rd_T45 t171 0).f2).toList) == ([] : List UInt8)))) = true then ((files_Path.f (⟨#[97, 47, 98, 46, 103, 111]⟩ : ByteArray)).bind fun t176 => (if t176 = true then ((files_Path.f (⟨#[97, 47, 46, 46]⟩ : ByteArray)).bind fun t177 => (if t177 = true then (some false) else ((files_Path.f (⟨#[]⟩ : ByteArray)).bind fun t178 => (if t178 = true then (some false) else ((files_May.f k x1).bind fun t179 => (if t179 = true then ((files_Same.f k x1 x1).bind fun t180 => (if t180 = true then ((files_Same.f k x1 ([] : List (S49))).bind fun t181 => (some (!t181))) else (some false))) else (some false))))))) else (some false))) else (some false)) else (none)) else (some false)) else (some false)) else (none)) else (some false)) else (some false)) else (some false)) else (some false)) else (some false)) else (some false)) else (some false)) else (some false)) else (some false)))
def armadalaw05_live.f (k : Nat)  : Option (Bool) := (files_Apply.f ([] : List (S49)) (([(⟨false, (⟨#[98]⟩ : ByteArray), (⟨#[50]⟩ : ByteArray)⟩ : S45), (⟨false, (⟨#[97, 47, 120]⟩ : ByteArray), (⟨#[49]⟩ : ByteArray)⟩ : S45), (⟨false, (⟨#[98]⟩ : ByteArray), (⟨#[51]⟩ : ByteArray)⟩ : S45)] : List (S45)))).bind fun bt135 => ((files_Apply.f bt135.1 (([(⟨true, (⟨#[99]⟩ : ByteArray), (⟨#[]⟩ : ByteArray)⟩ : S45)] : List (S45)))).bind fun bt142 => ((files_Apply.f bt135.1 (([(⟨false, (⟨#[97, 47, 47, 98]⟩ : ByteArray), (⟨#[]⟩ : ByteArray)⟩ : S45)] : List (S45)))).bind fun bt149 => ((files_Encode.f (([(⟨false, (⟨#[98]⟩ : ByteArray), (⟨#[50, 50]⟩ : ByteArray)⟩ : S45), (⟨true, (⟨#[97]⟩ : ByteArray), (⟨#[]⟩ : ByteArray)⟩ : S45)] : List (S45)))).bind fun bt156 => ((files_Decode.f bt156.1).bind fun bt158 => (if bt156.1.size + 1 ≤ 9223372036854775807 then ((files_Decode.f (bt156.1 ++ (⟨#[122]⟩ : ByteArray))).bind fun bt162 => ((files_Get.f bt135.1 (⟨#[98]⟩ : ByteArray)).bind fun bt166 => (if (bt135.1.length : Int) = 2 then (armadalaw05_live.j0 k bt135.1 bt135.2 bt142.2 bt149.2 bt156.1 bt156.2 bt158.1 bt158.2 bt162.2 bt166.1 bt166.2 ((bt158.1.length : Int) != 2)) else (armadalaw05_live.j0 k bt135.1 bt135.2 bt142.2 bt149.2 bt156.1 bt156.2 bt158.1 bt158.2 bt162.2 bt166.1 bt166.2 true)))) else (none))))))
theorem armadalaw05_live.mono_l : ∀ k, (∀ y0 y1 y2 y3 y4 y5 y6 y7 y8 y9 y10 y11, LeO (armadalaw05_live.j0 k y0 y1 y2 y3 y4 y5 y6 y7 y8 y9 y10 y11) (armadalaw05_live.j0 (k + 1) y0 y1 y2 y3 y4 y5 y6 y7 y8 y9 y10 y11))
 | 0 => fun _ _ _ _ _ _ _ _ _ _ _ _ r h => by simp [armadalaw05_live.j0] at h
 | k + 1 => by
  have ih0 := armadalaw05_live.mono_l k
  ·intro y0 y1 y2 y3 y4 y5 y6 y7 y8 y9 y10 y11
   unfold armadalaw05_live.j0
   repeat' first
   | (with_reducible exact ih0 _ _ _ _ _ _ _ _ _ _ _ _)
   | (with_reducible exact files_May.mono _ _)
   | (with_reducible exact files_Same.mono _ _ _)
   | (with_reducible exact LeO.refl _)
   | (with_reducible exact LeO.none _)
   | (with_reducible refine LeO.ite ?_ ?_)
   | (with_reducible refine LeO.bind ?_ (fun _ => ?_))
   | exact ih0 _ _ _ _ _ _ _ _ _ _ _ _
   | exact files_May.mono _ _
   | exact files_Same.mono _ _ _
   | exact LeO.none _
   | refine LeO.ite ?_ ?_
   | refine LeO.bind ?_ (fun _ => ?_)
theorem armadalaw05_live.mono : ∀ k, LeO (armadalaw05_live.f k ) (armadalaw05_live.f (k + 1) ) := by
 intro  k
 have ih0 := armadalaw05_live.mono_l k
 unfold armadalaw05_live.f
 repeat' first
   | (with_reducible exact ih0 _ _ _ _ _ _ _ _ _ _ _ _)
   | (with_reducible exact files_May.mono _ _)
   | (with_reducible exact files_Same.mono _ _ _)
   | (with_reducible exact LeO.refl _)
   | (with_reducible exact LeO.none _)
   | (with_reducible refine LeO.ite ?_ ?_)
   | (with_reducible refine LeO.bind ?_ (fun _ => ?_))
   | exact ih0 _ _ _ _ _ _ _ _ _ _ _ _
   | exact files_May.mono _ _
   | exact files_Same.mono _ _ _
   | exact LeO.none _
   | refine LeO.ite ?_ ?_
   | refine LeO.bind ?_ (fun _ => ?_)
set_option maxHeartbeats 8000000 in
set_option maxRecDepth 100000 in
theorem armadalaw05_live.calls (k : Nat)  (r : Bool) (w : World) (h : armadalaw05_live.f k  = some r) (hT_ : r = true := by rfl) :
  Calls Tryd.prog 11 #[] w fun e w' => e = .returned (.bool r) ∧ Below w.heap.size w w' := by
 subst hT_
 have hu45 := Tryd.underlying45
 have hu49 := Tryd.underlying49
 have HB := Aside0.mk (Below.refl w.heap.size w)
 have H := h
 unfold armadalaw05_live.f at H
 clear h
 obtain ⟨y132, hy132⟩ : ∃ y_ : List (S45), y_ = (([(⟨false, (⟨#[98]⟩ : ByteArray), (⟨#[50]⟩ : ByteArray)⟩ : S45), (⟨false, (⟨#[97, 47, 120]⟩ : ByteArray), (⟨#[49]⟩ : ByteArray)⟩ : S45), (⟨false, (⟨#[98]⟩ : ByteArray), (⟨#[51]⟩ : ByteArray)⟩ : S45)] : List (S45))) := ⟨_, rfl⟩
 replace H : ((files_Apply.f ([] : List (S49)) y132).bind fun bt135 => ((files_Apply.f bt135.1 (([(⟨true, (⟨#[99]⟩ : ByteArray), (⟨#[]⟩ : ByteArray)⟩ : S45)] : List (S45)))).bind fun bt142 => ((files_Apply.f bt135.1 (([(⟨false, (⟨#[97, 47, 47, 98]⟩ : ByteArray), (⟨#[]⟩ : ByteArray)⟩ : S45)] : List (S45)))).bind fun bt149 => ((files_Encode.f (([(⟨false, (⟨#[98]⟩ : ByteArray), (⟨#[50, 50]⟩ : ByteArray)⟩ : S45), (⟨true, (⟨#[97]⟩ : ByteArray), (⟨#[]⟩ : ByteArray)⟩ : S45)] : List (S45)))).bind fun bt156 => ((files_Decode.f bt156.1).bind fun bt158 => (if bt156.1.size + 1 ≤ 9223372036854775807 then ((files_Decode.f (bt156.1 ++ (⟨#[122]⟩ : ByteArray))).bind fun bt162 => ((files_Get.f bt135.1 (⟨#[98]⟩ : ByteArray)).bind fun bt166 => (if (bt135.1.length : Int) = 2 then (armadalaw05_live.j0 k bt135.1 bt135.2 bt142.2 bt149.2 bt156.1 bt156.2 bt158.1 bt158.2 bt162.2 bt166.1 bt166.2 ((bt158.1.length : Int) != 2)) else (armadalaw05_live.j0 k bt135.1 bt135.2 bt142.2 bt149.2 bt156.1 bt156.2 bt158.1 bt158.2 bt162.2 bt166.1 bt166.2 true)))) else (none))))))) = some true := by first | (rw [hy132]; with_reducible exact H) | (have H2_ := (Option.bind_some _ _).symm.trans H; rw [hy132]; with_reducible exact H2_) | (have H2_ := (Option.bind_some _ _).symm.trans H; with_reducible exact H2_) | with_reducible exact H | (rw [hy132]; exact H) | exact H
 have Ny132 := Aside0.mk hy132
 clear hy132
 replace H := Option.bind_eq_some_iff.mp H
 obtain ⟨⟨t135, t136⟩, A10, H⟩ := H
 try dsimp only at H
 have A1 := Aside0.mk A10
 clear A10
 obtain ⟨y139, hy139⟩ : ∃ y_ : List (S45), y_ = (([(⟨true, (⟨#[99]⟩ : ByteArray), (⟨#[]⟩ : ByteArray)⟩ : S45)] : List (S45))) := ⟨_, rfl⟩
 replace H : ((files_Apply.f t135 y139).bind fun bt142 => ((files_Apply.f t135 (([(⟨false, (⟨#[97, 47, 47, 98]⟩ : ByteArray), (⟨#[]⟩ : ByteArray)⟩ : S45)] : List (S45)))).bind fun bt149 => ((files_Encode.f (([(⟨false, (⟨#[98]⟩ : ByteArray), (⟨#[50, 50]⟩ : ByteArray)⟩ : S45), (⟨true, (⟨#[97]⟩ : ByteArray), (⟨#[]⟩ : ByteArray)⟩ : S45)] : List (S45)))).bind fun bt156 => ((files_Decode.f bt156.1).bind fun bt158 => (if bt156.1.size + 1 ≤ 9223372036854775807 then ((files_Decode.f (bt156.1 ++ (⟨#[122]⟩ : ByteArray))).bind fun bt162 => ((files_Get.f t135 (⟨#[98]⟩ : ByteArray)).bind fun bt166 => (if (t135.length : Int) = 2 then (armadalaw05_live.j0 k t135 t136 bt142.2 bt149.2 bt156.1 bt156.2 bt158.1 bt158.2 bt162.2 bt166.1 bt166.2 ((bt158.1.length : Int) != 2)) else (armadalaw05_live.j0 k t135 t136 bt142.2 bt149.2 bt156.1 bt156.2 bt158.1 bt158.2 bt162.2 bt166.1 bt166.2 true)))) else (none)))))) = some true := by first | (rw [hy139]; with_reducible exact H) | (have H2_ := (Option.bind_some _ _).symm.trans H; rw [hy139]; with_reducible exact H2_) | (have H2_ := (Option.bind_some _ _).symm.trans H; with_reducible exact H2_) | with_reducible exact H | (rw [hy139]; exact H) | exact H
 have Ny139 := Aside0.mk hy139
 clear hy139
 replace H := Option.bind_eq_some_iff.mp H
 obtain ⟨⟨t142, t143⟩, A20, H⟩ := H
 try dsimp only at H
 have A2 := Aside0.mk A20
 clear A20
 obtain ⟨y146, hy146⟩ : ∃ y_ : List (S45), y_ = (([(⟨false, (⟨#[97, 47, 47, 98]⟩ : ByteArray), (⟨#[]⟩ : ByteArray)⟩ : S45)] : List (S45))) := ⟨_, rfl⟩
 replace H : ((files_Apply.f t135 y146).bind fun bt149 => ((files_Encode.f (([(⟨false, (⟨#[98]⟩ : ByteArray), (⟨#[50, 50]⟩ : ByteArray)⟩ : S45), (⟨true, (⟨#[97]⟩ : ByteArray), (⟨#[]⟩ : ByteArray)⟩ : S45)] : List (S45)))).bind fun bt156 => ((files_Decode.f bt156.1).bind fun bt158 => (if bt156.1.size + 1 ≤ 9223372036854775807 then ((files_Decode.f (bt156.1 ++ (⟨#[122]⟩ : ByteArray))).bind fun bt162 => ((files_Get.f t135 (⟨#[98]⟩ : ByteArray)).bind fun bt166 => (if (t135.length : Int) = 2 then (armadalaw05_live.j0 k t135 t136 t143 bt149.2 bt156.1 bt156.2 bt158.1 bt158.2 bt162.2 bt166.1 bt166.2 ((bt158.1.length : Int) != 2)) else (armadalaw05_live.j0 k t135 t136 t143 bt149.2 bt156.1 bt156.2 bt158.1 bt158.2 bt162.2 bt166.1 bt166.2 true)))) else (none))))) = some true := by first | (rw [hy146]; with_reducible exact H) | (have H2_ := (Option.bind_some _ _).symm.trans H; rw [hy146]; with_reducible exact H2_) | (have H2_ := (Option.bind_some _ _).symm.trans H; with_reducible exact H2_) | with_reducible exact H | (rw [hy146]; exact H) | exact H
 have Ny146 := Aside0.mk hy146
 clear hy146
 replace H := Option.bind_eq_some_iff.mp H
 obtain ⟨⟨t149, t150⟩, A30, H⟩ := H
 try dsimp only at H
 have A3 := Aside0.mk A30
 clear A30
 obtain ⟨y153, hy153⟩ : ∃ y_ : List (S45), y_ = (([(⟨false, (⟨#[98]⟩ : ByteArray), (⟨#[50, 50]⟩ : ByteArray)⟩ : S45), (⟨true, (⟨#[97]⟩ : ByteArray), (⟨#[]⟩ : ByteArray)⟩ : S45)] : List (S45))) := ⟨_, rfl⟩
 replace H : ((files_Encode.f y153).bind fun bt156 => ((files_Decode.f bt156.1).bind fun bt158 => (if bt156.1.size + 1 ≤ 9223372036854775807 then ((files_Decode.f (bt156.1 ++ (⟨#[122]⟩ : ByteArray))).bind fun bt162 => ((files_Get.f t135 (⟨#[98]⟩ : ByteArray)).bind fun bt166 => (if (t135.length : Int) = 2 then (armadalaw05_live.j0 k t135 t136 t143 t150 bt156.1 bt156.2 bt158.1 bt158.2 bt162.2 bt166.1 bt166.2 ((bt158.1.length : Int) != 2)) else (armadalaw05_live.j0 k t135 t136 t143 t150 bt156.1 bt156.2 bt158.1 bt158.2 bt162.2 bt166.1 bt166.2 true)))) else (none)))) = some true := by first | (rw [hy153]; with_reducible exact H) | (have H2_ := (Option.bind_some _ _).symm.trans H; rw [hy153]; with_reducible exact H2_) | (have H2_ := (Option.bind_some _ _).symm.trans H; with_reducible exact H2_) | with_reducible exact H | (rw [hy153]; exact H) | exact H
 have Ny153 := Aside0.mk hy153
 clear hy153
 replace H := Option.bind_eq_some_iff.mp H
 obtain ⟨⟨t156, t157⟩, A40, H⟩ := H
 try dsimp only at H
 have A4 := Aside0.mk A40
 clear A40
 replace H := Option.bind_eq_some_iff.mp H
 obtain ⟨⟨t158, t159⟩, A50, H⟩ := H
 try dsimp only at H
 have A5 := Aside0.mk A50
 clear A50
 by_cases c6 : t156.size + 1 ≤ 9223372036854775807
 ·rw [if_pos c6] at H
  have c6b0 := eq_true c6
  have c6b1 : decide (t156.size + 1 ≤ 9223372036854775807) = true := decide_eq_true c6
  try have c6b2 : (9223372036854775807 < t156.size + 1) = False := eq_false (Nat.not_lt.2 c6)
  replace H := Option.bind_eq_some_iff.mp H
  obtain ⟨⟨t162, t163⟩, A70, H⟩ := H
  try dsimp only at H
  have A7 := Aside0.mk A70
  clear A70
  replace H := Option.bind_eq_some_iff.mp H
  obtain ⟨⟨t166, t167⟩, A80, H⟩ := H
  try dsimp only at H
  have A8 := Aside0.mk A80
  clear A80
  have HC9 := Aside0.mk H
  clear H
  go_enter Tryd.func11, Tryd.ntmps11
  go_upto_region 8 with (first | ((with_reducible refine gate_dst (N := 20) rfl ?_); (try (refine gate_guard (by rfl) ?_; dsimp only)); refine Kd.R_lit k45 _ 45 ?hg (N := 20) ?hd (xs := ([(⟨false, (⟨#[98]⟩ : ByteArray), (⟨#[50]⟩ : ByteArray)⟩ : S45), (⟨false, (⟨#[97, 47, 120]⟩ : ByteArray), (⟨#[49]⟩ : ByteArray)⟩ : S45), (⟨false, (⟨#[98]⟩ : ByteArray), (⟨#[51]⟩ : ByteArray)⟩ : S45)] : List (S45))) (inner := [.bool false, .string (⟨#[98]⟩ : ByteArray), .string (⟨#[50]⟩ : ByteArray), .bool false, .string (⟨#[97, 47, 120]⟩ : ByteArray), .string (⟨#[49]⟩ : ByteArray), .bool false, .string (⟨#[98]⟩ : ByteArray), .string (⟨#[51]⟩ : ByteArray)]) (ok := fun _ => True) (okp := fun _ => True) ?hr ?hp (fun _ hk => hk) trivial (Below.refl _ _) (Nat.le_refl _) (by simp) ?_; (case hd => rfl); (case hg => rfl); (case hr => first | (go_simp; done) | (go_simp; rfl)); (case hp => exact (Reps.c3 (show Kd.M k45 _ _ _ (⟨false, (⟨#[98]⟩ : ByteArray), (⟨#[50]⟩ : ByteArray)⟩ : S45) [.bool false, .string (⟨#[98]⟩ : ByteArray), .string (⟨#[50]⟩ : ByteArray)] from (k45_mkM _ _ _ (⟨false, (⟨#[98]⟩ : ByteArray), (⟨#[50]⟩ : ByteArray)⟩ : S45) )) (Reps.c3 (show Kd.M k45 _ _ _ (⟨false, (⟨#[97, 47, 120]⟩ : ByteArray), (⟨#[49]⟩ : ByteArray)⟩ : S45) [.bool false, .string (⟨#[97, 47, 120]⟩ : ByteArray), .string (⟨#[49]⟩ : ByteArray)] from (k45_mkM _ _ _ (⟨false, (⟨#[97, 47, 120]⟩ : ByteArray), (⟨#[49]⟩ : ByteArray)⟩ : S45) )) (Reps.c3 (show Kd.M k45 _ _ _ (⟨false, (⟨#[98]⟩ : ByteArray), (⟨#[51]⟩ : ByteArray)⟩ : S45) [.bool false, .string (⟨#[98]⟩ : ByteArray), .string (⟨#[51]⟩ : ByteArray)] from (k45_mkM _ _ _ (⟨false, (⟨#[98]⟩ : ByteArray), (⟨#[51]⟩ : ByteArray)⟩ : S45) )) (Reps.none _ _))))); intro v133 w10 ho11 hb hg_ hnew_; clear hg_ hnew_; (first | rw [← Ny132.out] at ho11 | (simp only [Int.reduceToNat] at ho11; rw [← Ny132.out] at ho11)); have n0_ := Aside0.mk (Kd.R_lower ho11 (below_size qH)); have n1_ := wH hb; clear HB; have HO134 := n0_; have HB := n1_; clear n0_ n1_; clear hb ho11; obtain ⟨Ao12, co12, eo12⟩ := Kd.R_slice HO134.out; subst eo12) | ((with_reducible refine gate_callee (f := 21) rfl ?_); refine gL (some 21) Tryd.func21 #[.slice none 0 0, .slice Ao12 y132.length co12] ?_; (refine (files_Apply.calls _ _ ([] : List (S49)) _ _ y132 t135 t136 _ ?side1 ?side2 ?side3 ?side4 A1.out).mono ?_); (case side1 => exact Kd.C_nil _ _); (case side2 => exact Nat.le_refl _); (case side3 => exact qK (Kd.R_reads' HO134.out).2.2); (case side4 => exact (Kd.R_reads' HO134.out).2.1); rintro e w13 ⟨v137, rfl, ho0, hb⟩; refine ⟨_, rfl, ?_⟩; have n0_ := Aside0.mk (Kd.R_below (qR HO134.out) hb); have n1_ := Aside0.mk (Kd.R_lower ho0 (below_size qH)); have n2_ := wH hb; clear HO134; clear HB; have HO134 := n0_; have HO138 := n1_; have HB := n2_; clear n0_ n1_ n2_; (try clear hb); (try clear hb2); (try clear hk); (try clear hi); (try clear ho0)) | ((with_reducible refine gate_dst (N := 27) rfl ?_); (try (refine gate_guard (by rfl) ?_; dsimp only)); refine Kd.R_lit k45 _ 45 ?hg (N := 27) ?hd (xs := ([(⟨true, (⟨#[99]⟩ : ByteArray), (⟨#[]⟩ : ByteArray)⟩ : S45)] : List (S45))) (inner := [.bool true, .string (⟨#[99]⟩ : ByteArray), .string (⟨#[]⟩ : ByteArray)]) (ok := fun _ => True) (okp := fun _ => True) ?hr ?hp (fun _ hk => hk) trivial (Below.refl _ _) (Nat.le_refl _) (by simp) ?_; (case hd => rfl); (case hg => rfl); (case hr => first | (go_simp; done) | (go_simp; rfl)); (case hp => exact (Reps.c3 (show Kd.M k45 _ _ _ (⟨true, (⟨#[99]⟩ : ByteArray), (⟨#[]⟩ : ByteArray)⟩ : S45) [.bool true, .string (⟨#[99]⟩ : ByteArray), .string (⟨#[]⟩ : ByteArray)] from (k45_mkM _ _ _ (⟨true, (⟨#[99]⟩ : ByteArray), (⟨#[]⟩ : ByteArray)⟩ : S45) )) (Reps.none _ _))); intro v140 w14 ho15 hb hg_ hnew_; clear hg_ hnew_; (first | rw [← Ny139.out] at ho15 | (simp only [Int.reduceToNat] at ho15; rw [← Ny139.out] at ho15)); have n0_ := Aside0.mk (Kd.R_elder' (qR HO134.out) (Kd.R_base ho15) hb); have n1_ := Aside0.mk (Kd.R_below (qR HO138.out) hb); have n2_ := Aside0.mk (Kd.R_lower (Kd.R_new' ho15 (Kd.R_lt (qR HO134.out))) (below_size qH)); have n3_ := wH hb; clear HO134; clear HO138; clear HB; have HO134 := n0_; have HO138 := n1_; have HO141 := n2_; have HB := n3_; clear n0_ n1_ n2_ n3_; clear hb ho15; obtain ⟨Ao16, co16, eo16⟩ := Kd.R_slice HO138.out; subst eo16; obtain ⟨Ao17, co17, eo17⟩ := Kd.R_slice HO141.out; subst eo17) | ((with_reducible refine gate_callee (f := 21) rfl ?_); refine gL (some 28) Tryd.func21 #[.slice Ao16 t135.length co16, .slice Ao17 y139.length co17] ?_; (with_reducible refine (files_Apply.calls _ _ t135 _ _ y139 t142 t143 _ ?side1 ?side2 ?side3 ?side4 A2.out).mono ?_); (case side1 => exact qK (Kd.R_reads' HO138.out).2.2); (case side2 => exact (Kd.R_reads' HO138.out).2.1); (case side3 => exact qK (Kd.R_reads' HO141.out).2.2); (case side4 => exact (Kd.R_reads' HO141.out).2.1); rintro e w18 ⟨v144, rfl, ho0, hb⟩; refine ⟨_, rfl, ?_⟩; have n0_ := Aside0.mk (Kd.R_below (qR HO134.out) hb); have n1_ := Aside0.mk (Kd.R_elder' (qR HO138.out) (Kd.R_base ho0) hb); have n2_ := Aside0.mk (Kd.R_below (qR HO141.out) hb); have n3_ := Aside0.mk (Kd.R_lower (Kd.R_new' ho0 (Kd.R_lt (qR HO138.out))) (below_size qH)); have n4_ := wH hb; clear HO134; clear HO138; clear HO141; clear HB; have HO134 := n0_; have HO138 := n1_; have HO141 := n2_; have HO145 := n3_; have HB := n4_; clear n0_ n1_ n2_ n3_ n4_; (try clear hb); (try clear hb2); (try clear hk); (try clear hi); (try clear ho0)) | ((with_reducible refine gate_dst (N := 34) rfl ?_); (try (refine gate_guard (by rfl) ?_; dsimp only)); refine Kd.R_lit k45 _ 45 ?hg (N := 34) ?hd (xs := ([(⟨false, (⟨#[97, 47, 47, 98]⟩ : ByteArray), (⟨#[]⟩ : ByteArray)⟩ : S45)] : List (S45))) (inner := [.bool false, .string (⟨#[97, 47, 47, 98]⟩ : ByteArray), .string (⟨#[]⟩ : ByteArray)]) (ok := fun _ => True) (okp := fun _ => True) ?hr ?hp (fun _ hk => hk) trivial (Below.refl _ _) (Nat.le_refl _) (by simp) ?_; (case hd => rfl); (case hg => rfl); (case hr => first | (go_simp; done) | (go_simp; rfl)); (case hp => exact (Reps.c3 (show Kd.M k45 _ _ _ (⟨false, (⟨#[97, 47, 47, 98]⟩ : ByteArray), (⟨#[]⟩ : ByteArray)⟩ : S45) [.bool false, .string (⟨#[97, 47, 47, 98]⟩ : ByteArray), .string (⟨#[]⟩ : ByteArray)] from (k45_mkM _ _ _ (⟨false, (⟨#[97, 47, 47, 98]⟩ : ByteArray), (⟨#[]⟩ : ByteArray)⟩ : S45) )) (Reps.none _ _))); intro v147 w19 ho20 hb hg_ hnew_; clear hg_ hnew_; (first | rw [← Ny146.out] at ho20 | (simp only [Int.reduceToNat] at ho20; rw [← Ny146.out] at ho20)); have n0_ := Aside0.mk (Kd.R_elder' (qR HO134.out) (Kd.R_base ho20) hb); have n1_ := Aside0.mk (Kd.R_below (qR HO138.out) hb); have n2_ := Aside0.mk (Kd.R_elder' (qR HO141.out) (Kd.R_base ho20) hb); have n3_ := Aside0.mk (Kd.R_below (qR HO145.out) hb); have n4_ := Aside0.mk (Kd.R_lower (Kd.R_new' (Kd.R_new' ho20 (Kd.R_lt (qR HO134.out))) (Kd.R_lt (qR HO141.out))) (below_size qH)); have n5_ := wH hb; clear HO134; clear HO138; clear HO141; clear HO145; clear HB; have HO134 := n0_; have HO138 := n1_; have HO141 := n2_; have HO145 := n3_; have HO148 := n4_; have HB := n5_; clear n0_ n1_ n2_ n3_ n4_ n5_; clear hb ho20; obtain ⟨Ao21, co21, eo21⟩ := Kd.R_slice HO148.out; subst eo21) | ((with_reducible refine gate_callee (f := 21) rfl ?_); refine gL (some 35) Tryd.func21 #[.slice Ao16 t135.length co16, .slice Ao21 y146.length co21] ?_; (with_reducible refine (files_Apply.calls _ _ t135 _ _ y146 t149 t150 _ ?side1 ?side2 ?side3 ?side4 A3.out).mono ?_); (case side1 => exact qK (Kd.R_reads' HO138.out).2.2); (case side2 => exact (Kd.R_reads' HO138.out).2.1); (case side3 => exact qK (Kd.R_reads' HO148.out).2.2); (case side4 => exact (Kd.R_reads' HO148.out).2.1); rintro e w22 ⟨v151, rfl, ho0, hb⟩; refine ⟨_, rfl, ?_⟩; have n0_ := Aside0.mk (Kd.R_below (qR HO134.out) hb); have n1_ := Aside0.mk (Kd.R_elder' (qR HO138.out) (Kd.R_base ho0) hb); have n2_ := Aside0.mk (Kd.R_below (qR HO141.out) hb); have n3_ := Aside0.mk (Kd.R_elder' (qR HO145.out) (Kd.R_base ho0) hb); have n4_ := Aside0.mk (Kd.R_below (qR HO148.out) hb); have n5_ := Aside0.mk (Kd.R_lower (Kd.R_new' (Kd.R_new' ho0 (Kd.R_lt (qR HO138.out))) (Kd.R_lt (qR HO145.out))) (below_size qH)); have n6_ := wH hb; clear HO134; clear HO138; clear HO141; clear HO145; clear HO148; clear HB; have HO134 := n0_; have HO138 := n1_; have HO141 := n2_; have HO145 := n3_; have HO148 := n4_; have HO152 := n5_; have HB := n6_; clear n0_ n1_ n2_ n3_ n4_ n5_ n6_; (try clear hb); (try clear hb2); (try clear hk); (try clear hi); (try clear ho0)) | ((with_reducible refine gate_dst (N := 41) rfl ?_); (try (refine gate_guard (by rfl) ?_; dsimp only)); refine Kd.R_lit k45 _ 45 ?hg (N := 41) ?hd (xs := ([(⟨false, (⟨#[98]⟩ : ByteArray), (⟨#[50, 50]⟩ : ByteArray)⟩ : S45), (⟨true, (⟨#[97]⟩ : ByteArray), (⟨#[]⟩ : ByteArray)⟩ : S45)] : List (S45))) (inner := [.bool false, .string (⟨#[98]⟩ : ByteArray), .string (⟨#[50, 50]⟩ : ByteArray), .bool true, .string (⟨#[97]⟩ : ByteArray), .string (⟨#[]⟩ : ByteArray)]) (ok := fun _ => True) (okp := fun _ => True) ?hr ?hp (fun _ hk => hk) trivial (Below.refl _ _) (Nat.le_refl _) (by simp) ?_; (case hd => rfl); (case hg => rfl); (case hr => first | (go_simp; done) | (go_simp; rfl)); (case hp => exact (Reps.c3 (show Kd.M k45 _ _ _ (⟨false, (⟨#[98]⟩ : ByteArray), (⟨#[50, 50]⟩ : ByteArray)⟩ : S45) [.bool false, .string (⟨#[98]⟩ : ByteArray), .string (⟨#[50, 50]⟩ : ByteArray)] from (k45_mkM _ _ _ (⟨false, (⟨#[98]⟩ : ByteArray), (⟨#[50, 50]⟩ : ByteArray)⟩ : S45) )) (Reps.c3 (show Kd.M k45 _ _ _ (⟨true, (⟨#[97]⟩ : ByteArray), (⟨#[]⟩ : ByteArray)⟩ : S45) [.bool true, .string (⟨#[97]⟩ : ByteArray), .string (⟨#[]⟩ : ByteArray)] from (k45_mkM _ _ _ (⟨true, (⟨#[97]⟩ : ByteArray), (⟨#[]⟩ : ByteArray)⟩ : S45) )) (Reps.none _ _)))); intro v154 w23 ho24 hb hg_ hnew_; clear hg_ hnew_; (first | rw [← Ny153.out] at ho24 | (simp only [Int.reduceToNat] at ho24; rw [← Ny153.out] at ho24)); have n0_ := Aside0.mk (Kd.R_elder' (qR HO134.out) (Kd.R_base ho24) hb); have n1_ := Aside0.mk (Kd.R_below (qR HO138.out) hb); have n2_ := Aside0.mk (Kd.R_elder' (qR HO141.out) (Kd.R_base ho24) hb); have n3_ := Aside0.mk (Kd.R_below (qR HO145.out) hb); have n4_ := Aside0.mk (Kd.R_elder' (qR HO148.out) (Kd.R_base ho24) hb); have n5_ := Aside0.mk (Kd.R_below (qR HO152.out) hb); have n6_ := Aside0.mk (Kd.R_lower (Kd.R_new' (Kd.R_new' (Kd.R_new' ho24 (Kd.R_lt (qR HO134.out))) (Kd.R_lt (qR HO141.out))) (Kd.R_lt (qR HO148.out))) (below_size qH)); have n7_ := wH hb; clear HO134; clear HO138; clear HO141; clear HO145; clear HO148; clear HO152; clear HB; have HO134 := n0_; have HO138 := n1_; have HO141 := n2_; have HO145 := n3_; have HO148 := n4_; have HO152 := n5_; have HO155 := n6_; have HB := n7_; clear n0_ n1_ n2_ n3_ n4_ n5_ n6_ n7_; clear hb ho24; obtain ⟨Ao25, co25, eo25⟩ := Kd.R_slice HO155.out; subst eo25) | ((with_reducible refine gate_callee (f := 26) rfl ?_); refine gL (some 42) Tryd.func26 #[.slice Ao25 y153.length co25] ?_; (with_reducible refine (files_Encode.calls _ _ y153 t156 t157 _ ?side1 ?side2 A4.out).mono ?_); (case side1 => exact qK (Kd.R_reads' HO155.out).2.2); (case side2 => exact (Kd.R_reads' HO155.out).2.1); rintro e w26 ⟨rfl, hb⟩; refine ⟨_, rfl, ?_⟩; have n0_ := Aside0.mk (Kd.R_below (qR HO134.out) hb); have n1_ := Aside0.mk (Kd.R_below (qR HO138.out) hb); have n2_ := Aside0.mk (Kd.R_below (qR HO141.out) hb); have n3_ := Aside0.mk (Kd.R_below (qR HO145.out) hb); have n4_ := Aside0.mk (Kd.R_below (qR HO148.out) hb); have n5_ := Aside0.mk (Kd.R_below (qR HO152.out) hb); have n6_ := Aside0.mk (Kd.R_below (qR HO155.out) hb); have n7_ := wH hb; clear HO134; clear HO138; clear HO141; clear HO145; clear HO148; clear HO152; clear HO155; clear HB; have HO134 := n0_; have HO138 := n1_; have HO141 := n2_; have HO145 := n3_; have HO148 := n4_; have HO152 := n5_; have HO155 := n6_; have HB := n7_; clear n0_ n1_ n2_ n3_ n4_ n5_ n6_ n7_; (try clear hb); (try clear hb2); (try clear hk); (try clear hi)) | ((with_reducible refine gate_callee (f := 28) rfl ?_); refine gL (some 47) Tryd.func28 #[.string t156] ?_; (with_reducible refine (files_Decode.calls t156 t158 t159 _ A5.out).mono ?_); rintro e w27 ⟨v160, rfl, ho0, hb⟩; refine ⟨_, rfl, ?_⟩; have n0_ := Aside0.mk (Kd.R_elder' (qR HO134.out) (Kd.R_base ho0) hb); have n1_ := Aside0.mk (Kd.R_below (qR HO138.out) hb); have n2_ := Aside0.mk (Kd.R_elder' (qR HO141.out) (Kd.R_base ho0) hb); have n3_ := Aside0.mk (Kd.R_below (qR HO145.out) hb); have n4_ := Aside0.mk (Kd.R_elder' (qR HO148.out) (Kd.R_base ho0) hb); have n5_ := Aside0.mk (Kd.R_below (qR HO152.out) hb); have n6_ := Aside0.mk (Kd.R_elder' (qR HO155.out) (Kd.R_base ho0) hb); have n7_ := Aside0.mk (Kd.R_lower (Kd.R_new' (Kd.R_new' (Kd.R_new' (Kd.R_new' ho0 (Kd.R_lt (qR HO134.out))) (Kd.R_lt (qR HO141.out))) (Kd.R_lt (qR HO148.out))) (Kd.R_lt (qR HO155.out))) (below_size qH)); have n8_ := wH hb; clear HO134; clear HO138; clear HO141; clear HO145; clear HO148; clear HO152; clear HO155; clear HB; have HO134 := n0_; have HO138 := n1_; have HO141 := n2_; have HO145 := n3_; have HO148 := n4_; have HO152 := n5_; have HO155 := n6_; have HO161 := n7_; have HB := n8_; clear n0_ n1_ n2_ n3_ n4_ n5_ n6_ n7_ n8_; (try clear hb); (try clear hb2); (try clear hk); (try clear hi); (try clear ho0)) | ((with_reducible refine gate_callee (f := 28) rfl ?_); refine gL (some 53) Tryd.func28 #[.string (t156 ++ (⟨#[122]⟩ : ByteArray))] ?_; (with_reducible refine (files_Decode.calls (t156 ++ (⟨#[122]⟩ : ByteArray)) t162 t163 _ A7.out).mono ?_); rintro e w28 ⟨v164, rfl, ho0, hb⟩; refine ⟨_, rfl, ?_⟩; have n0_ := Aside0.mk (Kd.R_elder' (qR HO134.out) (Kd.R_base ho0) hb); have n1_ := Aside0.mk (Kd.R_below (qR HO138.out) hb); have n2_ := Aside0.mk (Kd.R_elder' (qR HO141.out) (Kd.R_base ho0) hb); have n3_ := Aside0.mk (Kd.R_below (qR HO145.out) hb); have n4_ := Aside0.mk (Kd.R_elder' (qR HO148.out) (Kd.R_base ho0) hb); have n5_ := Aside0.mk (Kd.R_below (qR HO152.out) hb); have n6_ := Aside0.mk (Kd.R_elder' (qR HO155.out) (Kd.R_base ho0) hb); have n7_ := Aside0.mk (Kd.R_elder' (qR HO161.out) (Kd.R_base ho0) hb); have n8_ := Aside0.mk (Kd.R_lower (Kd.R_new' (Kd.R_new' (Kd.R_new' (Kd.R_new' (Kd.R_new' ho0 (Kd.R_lt (qR HO134.out))) (Kd.R_lt (qR HO141.out))) (Kd.R_lt (qR HO148.out))) (Kd.R_lt (qR HO155.out))) (Kd.R_lt (qR HO161.out))) (below_size qH)); have n9_ := wH hb; clear HO134; clear HO138; clear HO141; clear HO145; clear HO148; clear HO152; clear HO155; clear HO161; clear HB; have HO134 := n0_; have HO138 := n1_; have HO141 := n2_; have HO145 := n3_; have HO148 := n4_; have HO152 := n5_; have HO155 := n6_; have HO161 := n7_; have HO165 := n8_; have HB := n9_; clear n0_ n1_ n2_ n3_ n4_ n5_ n6_ n7_ n8_ n9_; (try clear hb); (try clear hb2); (try clear hk); (try clear hi); (try clear ho0)) | ((with_reducible refine gate_callee (f := 12) rfl ?_); refine gL (some 58) Tryd.func12 #[.slice Ao16 t135.length co16, .string (⟨#[98]⟩ : ByteArray)] ?_; (with_reducible refine (files_Get.calls _ _ t135 (⟨#[98]⟩ : ByteArray) t166 t167 _ ?side1 ?side2 A8.out).mono ?_); (case side1 => exact qK (Kd.R_reads' HO138.out).2.2); (case side2 => exact (Kd.R_reads' HO138.out).2.1); rintro e w29 ⟨rfl, hb⟩; refine ⟨_, rfl, ?_⟩; have n0_ := Aside0.mk (Kd.R_below (qR HO134.out) hb); have n1_ := Aside0.mk (Kd.R_below (qR HO138.out) hb); have n2_ := Aside0.mk (Kd.R_below (qR HO141.out) hb); have n3_ := Aside0.mk (Kd.R_below (qR HO145.out) hb); have n4_ := Aside0.mk (Kd.R_below (qR HO148.out) hb); have n5_ := Aside0.mk (Kd.R_below (qR HO152.out) hb); have n6_ := Aside0.mk (Kd.R_below (qR HO155.out) hb); have n7_ := Aside0.mk (Kd.R_below (qR HO161.out) hb); have n8_ := Aside0.mk (Kd.R_below (qR HO165.out) hb); have n9_ := wH hb; clear HO134; clear HO138; clear HO141; clear HO145; clear HO148; clear HO152; clear HO155; clear HO161; clear HO165; clear HB; have HO138 := n1_; have HO161 := n7_; have HB := n9_; clear n0_ n1_ n2_ n3_ n4_ n5_ n6_ n7_ n8_ n9_; (try clear hb); (try clear hb2); (try clear hk); (try clear hi)))
  (try simp only [Act.put, List.setIfInBounds_toArray, List.set_cons_zero, List.set_cons_succ])
  go_cut [68] (fun v68 wc => ∃ (kq : Nat) (x68_8 : Bool), v68 = .bool x68_8 ∧ Aside0 (armadalaw05_live.j0 kq t135 t136 t143 t150 t156 t157 t158 t159 t163 t166 t167 x68_8 = some true) ∧ Aside0 (kq ≤ k) ∧ Aside0 (Kd.R k49 49 wc w.heap.size (fun _ => True) (.slice Ao16 t135.length co16) t135) ∧ Aside0 (Kd.R k45 45 wc w.heap.size (fun _ => True) v160 t158) ∧ Aside0 (Below w.heap.size w wc))
  case first =>
   have H := HC9.out
   clear HC9
   by_cases c30 : (t135.length : Int) = 2
   ·rw [if_pos c30] at H
    have c30b0 : ((t135.length : Int) == 2) = true := beq_iff_eq.mpr c30
    have c30b1 : ((t135.length : Int) != 2) = false := bne_eq_false_iff_eq.mpr c30
    clear c30
    (first | rw [c30b0] | (simp only [i64_w, i32_w]; rw [c30b0]) | skip)
    have H' := Aside0.mk H
    clear H
    obtain ⟨Ao31, co31, eo31⟩ := Kd.R_slice HO161.out
    subst eo31
    go_wp2
    go_meet
    case rel => exact ⟨_, (((t158.length : Int) != 2)), eY, H', ⟨by first | omega | exact Nat.le_refl _⟩, ⟨by (with_reducible repeat (first | apply Kd.R_alloc | apply Kd.R_drewN | apply Kd.R_drew)); exact Kd.R_mono HO138.out (fun _ hk => trivial)⟩, ⟨by (with_reducible repeat (first | apply Kd.R_alloc | apply Kd.R_drewN | apply Kd.R_drew)); exact Kd.R_mono HO161.out (fun _ hk => trivial)⟩, ⟨qH⟩⟩
   ·rw [if_neg c30] at H
    have c30b0 : ((t135.length : Int) == 2) = false := beq_eq_false_iff_ne.mpr c30
    have c30b1 : ((t135.length : Int) != 2) = true := bne_iff_ne.mpr c30
    (first | rw [c30b0] | (simp only [i64_w, i32_w]; rw [c30b0]) | skip)
    have H' := Aside0.mk H
    clear H
    go_wp2
    go_meet
    case rel => exact ⟨_, (true), eY, H', ⟨by first | omega | exact Nat.le_refl _⟩, ⟨by (with_reducible repeat (first | apply Kd.R_alloc | apply Kd.R_drewN | apply Kd.R_drew)); exact Kd.R_mono HO138.out (fun _ hk => trivial)⟩, ⟨by (with_reducible repeat (first | apply Kd.R_alloc | apply Kd.R_drewN | apply Kd.R_drew)); exact Kd.R_mono HO161.out (fun _ hk => trivial)⟩, ⟨qH⟩⟩
  case rest =>
   clear HC9
   (try clear p2); (try clear c6); (try clear c6b0); (try clear c6b1); (try clear c6b2)
   obtain ⟨kq, x68_8, rfl, HA, HJ8, HO_1, HO_9, HB⟩ := hcut
   cases kq with
   | zero => exact absurd HA.out (by simp [armadalaw05_live.j0])
   | succ kj8 =>
    have H := HA.out
    clear HA
    simp only [armadalaw05_live.j0] at H
    by_cases c32 : x68_8 = true
    ·subst c32
     rw [if_pos rfl] at H
     exact absurd H (by simp)
    ·replace c32 := Bool.eq_false_iff.mpr c32
     subst c32
     rw [if_neg nF_] at H
     obtain ⟨y168, hy168⟩ : ∃ y_ : List (S49), y_ = (([(⟨(⟨#[98]⟩ : ByteArray), (⟨#[51]⟩ : ByteArray)⟩ : S49)] : List (S49))) := ⟨_, rfl⟩
     replace H : ((files_Diff.f t135 y168).bind fun t171 => (if t136 = 0 then (if t143 = 5 then (if t150 = 6 then (if t157 = 0 then (if t159 = 0 then (if t163 = 1 then (if t166.toList = ([51] : List UInt8) then (if t167 = true then (if t156.toList = ([0, 1, 98, 0, 2, 50, 50, 1, 1, 97] : List UInt8) then (if 1 < (t158.length : Int) then (if (((rd_T45 t158 1).f0) && ((((rd_T45 t158 1).f1).toList) == ([97] : List UInt8) && ((((rd_T45 t158 1).f2).toList) == ([] : List UInt8)))) = true then (if (t171.length : Int) = 1 then (if 0 < (t171.length : Int) then (if (((rd_T45 t171 0).f0) && ((((rd_T45 t171 0).f1).toList) == ([97, 47, 120] : List UInt8) && ((((rd_T45 t171 0).f2).toList) == ([] : List UInt8)))) = true then ((files_Path.f (⟨#[97, 47, 98, 46, 103, 111]⟩ : ByteArray)).bind fun t176 => (if t176 = true then ((files_Path.f (⟨#[97, 47, 46, 46]⟩ : ByteArray)).bind fun t177 => (if t177 = true then (some false) else ((files_Path.f (⟨#[]⟩ : ByteArray)).bind fun t178 => (if t178 = true then (some false) else ((files_May.f kj8 t135).bind fun t179 => (if t179 = true then ((files_Same.f kj8 t135 t135).bind fun t180 => (if t180 = true then ((files_Same.f kj8 t135 ([] : List (S49))).bind fun t181 => (some (!t181))) else (some false))) else (some false))))))) else (some false))) else (some false)) else (none)) else (some false)) else (some false)) else (none)) else (some false)) else (some false)) else (some false)) else (some false)) else (some false)) else (some false)) else (some false)) else (some false)) else (some false))) = some true := by first | (rw [hy168]; with_reducible exact H) | (have H2_ := (Option.bind_some _ _).symm.trans H; rw [hy168]; with_reducible exact H2_) | (have H2_ := (Option.bind_some _ _).symm.trans H; with_reducible exact H2_) | with_reducible exact H | (rw [hy168]; exact H) | exact H
     have Ny168 := Aside0.mk hy168
     clear hy168
     replace H := Option.bind_eq_some_iff.mp H
     obtain ⟨t171, A330, H⟩ := H
     try dsimp only at H
     have A33 := Aside0.mk A330
     clear A330
     by_cases c34 : t136 = 0
     ·rw [if_pos c34] at H
      have c34b0 : (t136 == 0) = true := beq_iff_eq.mpr c34
      have c34b1 : (t136 != 0) = false := bne_eq_false_iff_eq.mpr c34
      clear c34
      by_cases c35 : t143 = 5
      ·rw [if_pos c35] at H
       have c35b0 : (t143 == 5) = true := beq_iff_eq.mpr c35
       have c35b1 : (t143 != 5) = false := bne_eq_false_iff_eq.mpr c35
       clear c35
       by_cases c36 : t150 = 6
       ·rw [if_pos c36] at H
        have c36b0 : (t150 == 6) = true := beq_iff_eq.mpr c36
        have c36b1 : (t150 != 6) = false := bne_eq_false_iff_eq.mpr c36
        clear c36
        by_cases c37 : t157 = 0
        ·rw [if_pos c37] at H
         have c37b0 : (t157 == 0) = true := beq_iff_eq.mpr c37
         have c37b1 : (t157 != 0) = false := bne_eq_false_iff_eq.mpr c37
         clear c37
         by_cases c38 : t159 = 0
         ·rw [if_pos c38] at H
          have c38b0 : (t159 == 0) = true := beq_iff_eq.mpr c38
          have c38b1 : (t159 != 0) = false := bne_eq_false_iff_eq.mpr c38
          clear c38
          by_cases c39 : t163 = 1
          ·rw [if_pos c39] at H
           have c39b0 : (t163 == 1) = true := beq_iff_eq.mpr c39
           have c39b1 : (t163 != 1) = false := bne_eq_false_iff_eq.mpr c39
           clear c39
           by_cases c40 : t166.toList = ([51] : List UInt8)
           ·rw [if_pos c40] at H
            have c40b0 : (t166.toList == ([51] : List UInt8)) = true := beq_iff_eq.mpr c40
            have c40b1 : (t166.toList != ([51] : List UInt8)) = false := bne_eq_false_iff_eq.mpr c40
            clear c40
            by_cases c41 : t167 = true
            ·subst c41
             rw [if_pos rfl] at H
             by_cases c42 : t156.toList = ([0, 1, 98, 0, 2, 50, 50, 1, 1, 97] : List UInt8)
             ·rw [if_pos c42] at H
              have c42b0 : (t156.toList == ([0, 1, 98, 0, 2, 50, 50, 1, 1, 97] : List UInt8)) = true := beq_iff_eq.mpr c42
              have c42b1 : (t156.toList != ([0, 1, 98, 0, 2, 50, 50, 1, 1, 97] : List UInt8)) = false := bne_eq_false_iff_eq.mpr c42
              clear c42
              by_cases c43 : 1 < (t158.length : Int)
              ·rw [if_pos c43] at H
               have c43b0 : decide (1 < (t158.length : Int)) = true := decide_eq_true c43
               have c43b1 : decide (1 < t158.length) = true := decide_eq_true (by omega)
               clear c43
               by_cases c44 : (((rd_T45 t158 1).f0) && ((((rd_T45 t158 1).f1).toList) == ([97] : List UInt8) && ((((rd_T45 t158 1).f2).toList) == ([] : List UInt8)))) = true
               ·rw [if_pos c44] at H
                have c44b0 : (((rd_T45 t158 1).f0) && ((((rd_T45 t158 1).f1).toList) == ([97] : List UInt8) && ((((rd_T45 t158 1).f2).toList) == ([] : List UInt8)))) = true := c44
                have C44 := Aside0.mk c44
                clear c44
                by_cases c45 : (t171.length : Int) = 1
                ·rw [if_pos c45] at H
                 have c45b0 : ((t171.length : Int) == 1) = true := beq_iff_eq.mpr c45
                 have c45b1 : ((t171.length : Int) != 1) = false := bne_eq_false_iff_eq.mpr c45
                 clear c45
                 by_cases c46 : 0 < (t171.length : Int)
                 ·rw [if_pos c46] at H
                  have c46b0 : decide (0 < (t171.length : Int)) = true := decide_eq_true c46
                  have c46b1 : decide (0 < t171.length) = true := decide_eq_true (by omega)
                  clear c46
                  by_cases c47 : (((rd_T45 t171 0).f0) && ((((rd_T45 t171 0).f1).toList) == ([97, 47, 120] : List UInt8) && ((((rd_T45 t171 0).f2).toList) == ([] : List UInt8)))) = true
                  ·rw [if_pos c47] at H
                   have c47b0 : (((rd_T45 t171 0).f0) && ((((rd_T45 t171 0).f1).toList) == ([97, 47, 120] : List UInt8) && ((((rd_T45 t171 0).f2).toList) == ([] : List UInt8)))) = true := c47
                   have C47 := Aside0.mk c47
                   clear c47
                   replace H := Option.bind_eq_some_iff.mp H
                   obtain ⟨t176, A480, H⟩ := H
                   try dsimp only at H
                   have A48 := Aside0.mk A480
                   clear A480
                   by_cases c49 : t176 = true
                   ·subst c49
                    rw [if_pos rfl] at H
                    replace H := Option.bind_eq_some_iff.mp H
                    obtain ⟨t177, A500, H⟩ := H
                    try dsimp only at H
                    have A50 := Aside0.mk A500
                    clear A500
                    by_cases c51 : t177 = true
                    ·subst c51
                     rw [if_pos rfl] at H
                     exact absurd H (by simp)
                    ·replace c51 := Bool.eq_false_iff.mpr c51
                     subst c51
                     rw [if_neg nF_] at H
                     replace H := Option.bind_eq_some_iff.mp H
                     obtain ⟨t178, A520, H⟩ := H
                     try dsimp only at H
                     have A52 := Aside0.mk A520
                     clear A520
                     by_cases c53 : t178 = true
                     ·subst c53
                      rw [if_pos rfl] at H
                      exact absurd H (by simp)
                     ·replace c53 := Bool.eq_false_iff.mpr c53
                      subst c53
                      rw [if_neg nF_] at H
                      replace H := Option.bind_eq_some_iff.mp H
                      obtain ⟨t179, A540, H⟩ := H
                      try dsimp only at H
                      have A54 := Aside0.mk A540
                      clear A540
                      by_cases c55 : t179 = true
                      ·subst c55
                       rw [if_pos rfl] at H
                       replace H := Option.bind_eq_some_iff.mp H
                       obtain ⟨t180, A560, H⟩ := H
                       try dsimp only at H
                       have A56 := Aside0.mk A560
                       clear A560
                       by_cases c57 : t180 = true
                       ·subst c57
                        rw [if_pos rfl] at H
                        replace H := Option.bind_eq_some_iff.mp H
                        obtain ⟨t181, A580, H⟩ := H
                        try dsimp only at H
                        have A58 := Aside0.mk A580
                        clear A580
                        have hret_ := Option.some.inj H
                        clear H
                        go_wp2_with (first | ((with_reducible refine gate_dst (N := 71) rfl ?_); (try (refine gate_guard (by rfl) ?_; dsimp only)); refine Kd.R_lit k49 _ 49 ?hg (N := 71) ?hd (xs := ([(⟨(⟨#[98]⟩ : ByteArray), (⟨#[51]⟩ : ByteArray)⟩ : S49)] : List (S49))) (inner := [.string (⟨#[98]⟩ : ByteArray), .string (⟨#[51]⟩ : ByteArray)]) (ok := fun _ => True) (okp := fun _ => True) ?hr ?hp (fun _ hk => hk) trivial (Below.refl _ _) (Nat.le_refl _) (by simp) ?_; (case hd => rfl); (case hg => rfl); (case hr => first | (go_simp; done) | (go_simp; rfl)); (case hp => exact (Reps.c2 (show Kd.M k49 _ _ _ (⟨(⟨#[98]⟩ : ByteArray), (⟨#[51]⟩ : ByteArray)⟩ : S49) [.string (⟨#[98]⟩ : ByteArray), .string (⟨#[51]⟩ : ByteArray)] from (k49_mkM _ _ _ (⟨(⟨#[98]⟩ : ByteArray), (⟨#[51]⟩ : ByteArray)⟩ : S49) )) (Reps.none _ _))); intro v169 w59 ho60 hb hg_ hnew_; clear hg_ hnew_; (first | rw [← Ny168.out] at ho60 | (simp only [Int.reduceToNat] at ho60; rw [← Ny168.out] at ho60)); have n0_ := Aside0.mk (Kd.R_elder' (qR HO_1.out) (Kd.R_base ho60) hb); have n1_ := Aside0.mk (Kd.R_below (qR HO_9.out) hb); have n2_ := Aside0.mk (Kd.R_lower (Kd.R_new' ho60 (Kd.R_lt (qR HO_1.out))) (below_size qH)); have n3_ := wH hb; clear HO_1; clear HO_9; clear HB; have HO_1 := n0_; have HO_9 := n1_; have HO170 := n2_; have HB := n3_; clear n0_ n1_ n2_ n3_; clear hb ho60; obtain ⟨Ao61, co61, eo61⟩ := Kd.R_slice HO170.out; subst eo61) | ((with_reducible refine gate_callee (f := 24) rfl ?_); refine gL (some 72) Tryd.func24 #[.slice Ao16 t135.length co16, .slice Ao61 y168.length co61] ?_; (with_reducible refine (files_Diff.calls _ _ t135 _ _ y168 t171 _ ?side1 ?side2 ?side3 ?side4 A33.out).mono ?_); (case side1 => exact qK (Kd.R_reads' HO_1.out).2.2); (case side2 => exact (Kd.R_reads' HO_1.out).2.1); (case side3 => exact qK (Kd.R_reads' HO170.out).2.2); (case side4 => exact (Kd.R_reads' HO170.out).2.1); rintro e w62 ⟨v172, rfl, ho0, hb⟩; refine ⟨_, rfl, ?_⟩; have n0_ := Aside0.mk (Kd.R_below (qR HO_1.out) hb); have n1_ := Aside0.mk (Kd.R_elder' (qR HO_9.out) (Kd.R_base ho0) hb); have n2_ := Aside0.mk (Kd.R_below (qR HO170.out) hb); have n3_ := Aside0.mk (Kd.R_lower (Kd.R_new' ho0 (Kd.R_lt (qR HO_9.out))) (below_size qH)); have n4_ := wH hb; clear HO_1; clear HO_9; clear HO170; clear HB; have HO_1 := n0_; have HO_9 := n1_; have HO170 := n2_; have HO173 := n3_; have HB := n4_; clear n0_ n1_ n2_ n3_ n4_; (try clear hb); (try clear hb2); (try clear hk); (try clear hi); (try clear ho0); obtain ⟨Ao63, co63, eo63⟩ := Kd.R_slice HO_9.out; subst eo63; have p174 : 0 ≤ (1 : Int) := (by omega); have q174 : 1 < (t158.length : Int) := of_decide_eq_true aS; obtain ⟨ad174, e174, hx174_0, hx174_1, hx174_2⟩ := at_T45 (Kd.R_reads' HO_9.out).2.2 1 p174 q174; cases e174; (try simp only [show (1 : Int).toNat = 1 from rfl, Nat.reduceMul, Nat.reduceEqDiff, Go.Addr.add, ↓reduceIte] at hx174_0); (try simp only [show (1 : Int).toNat = 1 from rfl, Nat.reduceMul, Nat.reduceEqDiff, Go.Addr.add, ↓reduceIte] at hx174_1); (try simp only [show (1 : Int).toNat = 1 from rfl, Nat.reduceMul, Nat.reduceEqDiff, Go.Addr.add, ↓reduceIte] at hx174_2); have qi174 : (1 < t158.length) = True := eq_true (by omega); (try rw [show ((1 : Int)).toNat = 1 from rfl] at hx174_0); (try rw [show 1 * 3 = 3 from rfl] at hx174_0); (try rw [show ((1 : Int)).toNat = 1 from rfl] at hx174_1); (try rw [show 1 * 3 = 3 from rfl] at hx174_1); (try rw [show ((1 : Int)).toNat = 1 from rfl] at hx174_2); (try rw [show 1 * 3 = 3 from rfl] at hx174_2); replace p174 := eq_true p174; replace q174 := eq_true q174; obtain ⟨Ao64, co64, eo64⟩ := Kd.R_slice HO173.out; subst eo64; have p175 : 0 ≤ (0 : Int) := (by omega); have q175 : 0 < (t171.length : Int) := of_decide_eq_true aS; obtain ⟨ad175, e175, hx175_0, hx175_1, hx175_2⟩ := at_T45 (Kd.R_reads' HO173.out).2.2 0 p175 q175; cases e175; have qi175 : (0 < t171.length) = True := eq_true (by omega); (try rw [show ((0 : Int)).toNat = 0 from rfl] at hx175_0); (try rw [show 0 * 3 = 0 from rfl] at hx175_0); (try rw [Addr.add_zero'] at hx175_0); (try rw [show ((0 : Int)).toNat = 0 from rfl] at hx175_1); (try rw [show 0 * 3 = 0 from rfl] at hx175_1); (try rw [Addr.add_zero'] at hx175_1); (try rw [show ((0 : Int)).toNat = 0 from rfl] at hx175_2); (try rw [show 0 * 3 = 0 from rfl] at hx175_2); (try rw [Addr.add_zero'] at hx175_2); replace p175 := eq_true p175; replace q175 := eq_true q175) | (go_at_call 14; (with_reducible refine (files_Path.calls (⟨#[97, 47, 98, 46, 103, 111]⟩ : ByteArray) true _ A48.out).mono ?_); rintro e w65 ⟨rfl, hb⟩; have n0_ := Aside0.mk (Kd.R_below (qR HO_1.out) hb); have n1_ := Aside0.mk (Kd.R_below (qR HO_9.out) hb); have n2_ := Aside0.mk (Kd.R_below (qR HO170.out) hb); have n3_ := Aside0.mk (Kd.R_below (qR HO173.out) hb); have n4_ := wH hb; clear HO_1; clear HO_9; clear HO170; clear HO173; clear HB; have HO_1 := n0_; have HO_9 := n1_; have HO170 := n2_; have HO173 := n3_; have HB := n4_; clear n0_ n1_ n2_ n3_ n4_; (try clear hb); (try clear hb2); (try clear hk); (try clear hi)) | (go_at_call 14; (with_reducible refine (files_Path.calls (⟨#[97, 47, 46, 46]⟩ : ByteArray) false _ A50.out).mono ?_); rintro e w66 ⟨rfl, hb⟩; have n0_ := Aside0.mk (Kd.R_below (qR HO_1.out) hb); have n1_ := Aside0.mk (Kd.R_below (qR HO_9.out) hb); have n2_ := Aside0.mk (Kd.R_below (qR HO170.out) hb); have n3_ := Aside0.mk (Kd.R_below (qR HO173.out) hb); have n4_ := wH hb; clear HO_1; clear HO_9; clear HO170; clear HO173; clear HB; have HO_1 := n0_; have HO_9 := n1_; have HO170 := n2_; have HO173 := n3_; have HB := n4_; clear n0_ n1_ n2_ n3_ n4_; (try clear hb); (try clear hb2); (try clear hk); (try clear hi)) | (go_at_call 14; (with_reducible refine (files_Path.calls (⟨#[]⟩ : ByteArray) false _ A52.out).mono ?_); rintro e w67 ⟨rfl, hb⟩; have n0_ := Aside0.mk (Kd.R_below (qR HO_1.out) hb); have n1_ := Aside0.mk (Kd.R_below (qR HO_9.out) hb); have n2_ := Aside0.mk (Kd.R_below (qR HO170.out) hb); have n3_ := Aside0.mk (Kd.R_below (qR HO173.out) hb); have n4_ := wH hb; clear HO_1; clear HO_9; clear HO170; clear HO173; clear HB; have HO_1 := n0_; have HO_9 := n1_; have HO170 := n2_; have HO173 := n3_; have HB := n4_; clear n0_ n1_ n2_ n3_ n4_; (try clear hb); (try clear hb2); (try clear hk); (try clear hi)) | (go_at_call 16; (with_reducible refine (files_May.calls kj8 _ _ t135 true _ ?side1 ?side2 A54.out).mono ?_); (case side1 => exact qK (Kd.R_reads' HO_1.out).2.2); (case side2 => exact (Kd.R_reads' HO_1.out).2.1); rintro e w68 ⟨rfl, hb⟩; have n0_ := Aside0.mk (Kd.R_below (qR HO_1.out) hb); have n1_ := Aside0.mk (Kd.R_below (qR HO_9.out) hb); have n2_ := Aside0.mk (Kd.R_below (qR HO170.out) hb); have n3_ := Aside0.mk (Kd.R_below (qR HO173.out) hb); have n4_ := wH hb; clear HO_1; clear HO_9; clear HO170; clear HO173; clear HB; have HO_1 := n0_; have HB := n4_; clear n0_ n1_ n2_ n3_ n4_; (try clear hb); (try clear hb2); (try clear hk); (try clear hi)) | (go_at_call 18; (with_reducible refine (files_Same.calls kj8 _ _ t135 _ _ t135 true _ ?side1 ?side2 ?side3 ?side4 A56.out).mono ?_); (case side1 => exact qK (Kd.R_reads' HO_1.out).2.2); (case side2 => exact (Kd.R_reads' HO_1.out).2.1); (case side3 => exact qK (Kd.R_reads' HO_1.out).2.2); (case side4 => exact (Kd.R_reads' HO_1.out).2.1); rintro e w' ⟨rfl, ⟨nd, rfl⟩⟩) | (go_at_call 18; (refine (files_Same.calls kj8 _ _ t135 _ _ ([] : List (S49)) t181 _ ?side1 ?side2 ?side3 ?side4 A58.out).mono ?_); (case side1 => exact qK (Kd.R_reads' HO_1.out).2.2); (case side2 => exact (Kd.R_reads' HO_1.out).2.1); (case side3 => exact Kd.C_nil _ _); (case side4 => exact Nat.le_refl _); rintro e w' ⟨rfl, ⟨nd, rfl⟩⟩))
                        any_goals (first | (exfalso; rename_i hz_; exact hz_ (by simpa using C47.out); done) | (exfalso; rename_i hz_; exact hz_ (by simpa using C44.out); done) | skip)
                        go_ret
                        exact ⟨eX, qH⟩
                       ·replace c57 := Bool.eq_false_iff.mpr c57
                        subst c57
                        rw [if_neg nF_] at H
                        exact absurd H (by simp)
                      ·replace c55 := Bool.eq_false_iff.mpr c55
                       subst c55
                       rw [if_neg nF_] at H
                       exact absurd H (by simp)
                   ·replace c49 := Bool.eq_false_iff.mpr c49
                    subst c49
                    rw [if_neg nF_] at H
                    exact absurd H (by simp)
                  ·rw [if_neg c47] at H
                   have c47b0 : (((rd_T45 t171 0).f0) && ((((rd_T45 t171 0).f1).toList) == ([97, 47, 120] : List UInt8) && ((((rd_T45 t171 0).f2).toList) == ([] : List UInt8)))) = false := by simpa using c47
                   have C47 := Aside0.mk c47
                   clear c47
                   exact absurd H (by simp)
                 ·rw [if_neg c46] at H
                  exact absurd H (by simp)
                ·rw [if_neg c45] at H
                 have c45b0 : ((t171.length : Int) == 1) = false := beq_eq_false_iff_ne.mpr c45
                 have c45b1 : ((t171.length : Int) != 1) = true := bne_iff_ne.mpr c45
                 exact absurd H (by simp)
               ·rw [if_neg c44] at H
                have c44b0 : (((rd_T45 t158 1).f0) && ((((rd_T45 t158 1).f1).toList) == ([97] : List UInt8) && ((((rd_T45 t158 1).f2).toList) == ([] : List UInt8)))) = false := by simpa using c44
                have C44 := Aside0.mk c44
                clear c44
                exact absurd H (by simp)
              ·rw [if_neg c43] at H
               exact absurd H (by simp)
             ·rw [if_neg c42] at H
              have c42b0 : (t156.toList == ([0, 1, 98, 0, 2, 50, 50, 1, 1, 97] : List UInt8)) = false := beq_eq_false_iff_ne.mpr c42
              have c42b1 : (t156.toList != ([0, 1, 98, 0, 2, 50, 50, 1, 1, 97] : List UInt8)) = true := bne_iff_ne.mpr c42
              exact absurd H (by simp)
            ·replace c41 := Bool.eq_false_iff.mpr c41
             subst c41
             rw [if_neg nF_] at H
             exact absurd H (by simp)
           ·rw [if_neg c40] at H
            have c40b0 : (t166.toList == ([51] : List UInt8)) = false := beq_eq_false_iff_ne.mpr c40
            have c40b1 : (t166.toList != ([51] : List UInt8)) = true := bne_iff_ne.mpr c40
            exact absurd H (by simp)
          ·rw [if_neg c39] at H
           have c39b0 : (t163 == 1) = false := beq_eq_false_iff_ne.mpr c39
           have c39b1 : (t163 != 1) = true := bne_iff_ne.mpr c39
           exact absurd H (by simp)
         ·rw [if_neg c38] at H
          have c38b0 : (t159 == 0) = false := beq_eq_false_iff_ne.mpr c38
          have c38b1 : (t159 != 0) = true := bne_iff_ne.mpr c38
          exact absurd H (by simp)
        ·rw [if_neg c37] at H
         have c37b0 : (t157 == 0) = false := beq_eq_false_iff_ne.mpr c37
         have c37b1 : (t157 != 0) = true := bne_iff_ne.mpr c37
         exact absurd H (by simp)
       ·rw [if_neg c36] at H
        have c36b0 : (t150 == 6) = false := beq_eq_false_iff_ne.mpr c36
        have c36b1 : (t150 != 6) = true := bne_iff_ne.mpr c36
        exact absurd H (by simp)
      ·rw [if_neg c35] at H
       have c35b0 : (t143 == 5) = false := beq_eq_false_iff_ne.mpr c35
       have c35b1 : (t143 != 5) = true := bne_iff_ne.mpr c35
       exact absurd H (by simp)
     ·rw [if_neg c34] at H
      have c34b0 : (t136 == 0) = false := beq_eq_false_iff_ne.mpr c34
      have c34b1 : (t136 != 0) = true := bne_iff_ne.mpr c34
      exact absurd H (by simp)
 ·rw [if_neg c6] at H
  exact absurd H (by simp)
end
def armadalaw05_FilesCodes.j0 : Nat → List (S45) → ByteArray → Bool → Option (Bool)
 | 0, _, _, _ => none
 | k + 1, x0, x1, x20 => if x20 = true then ((armadalaw05_live.f k).bind fun t331 => (some t331)) else ((files_Encode.f x0).bind fun bt332 => ((armadaref05_Encode.f k x0).bind fun bt334 => ((files_Decode.f x1).bind fun bt336 => ((armadaref05_Decode.f k x1).bind fun bt340 => (if bt332.1.toList = bt334.1.toList then (if bt332.2 = bt334.2 then ((armadaref05_Ops.f k bt336.1 bt340.1).bind fun t344 => (if t344 = true then (if bt336.2 = bt340.2 then ((armadalaw05_live.f k).bind fun t345 => (some t345)) else (some false)) else (some false))) else (some false)) else (some false))))))
def armadalaw05_FilesCodes.f (k : Nat) (l0 : List (S45)) (a1 : ByteArray) : Option (Bool) := (armadaref05_Few.f k l0).bind fun t330 => (if t330 = true then (armadalaw05_FilesCodes.j0 k l0 a1 (decide ((a1.size : Int) > 5000))) else (armadalaw05_FilesCodes.j0 k l0 a1 true))
theorem armadalaw05_FilesCodes.mono_l : ∀ k, (∀ y0 y1 y2, LeO (armadalaw05_FilesCodes.j0 k y0 y1 y2) (armadalaw05_FilesCodes.j0 (k + 1) y0 y1 y2))
 | 0 => fun _ _ _ r h => by simp [armadalaw05_FilesCodes.j0] at h
 | k + 1 => by
  have ih0 := armadalaw05_FilesCodes.mono_l k
  ·intro y0 y1 y2
   unfold armadalaw05_FilesCodes.j0
   repeat' first
   | (with_reducible exact ih0 _ _ _)
   | (with_reducible exact armadalaw05_live.mono _)
   | (with_reducible exact armadaref05_Decode.mono _ _)
   | (with_reducible exact armadaref05_Encode.mono _ _)
   | (with_reducible exact armadaref05_Few.mono _ _)
   | (with_reducible exact armadaref05_Ops.mono _ _ _)
   | (with_reducible exact LeO.refl _)
   | (with_reducible exact LeO.none _)
   | (with_reducible refine LeO.ite ?_ ?_)
   | (with_reducible refine LeO.bind ?_ (fun _ => ?_))
   | exact ih0 _ _ _
   | exact armadalaw05_live.mono _
   | exact armadaref05_Decode.mono _ _
   | exact armadaref05_Encode.mono _ _
   | exact armadaref05_Few.mono _ _
   | exact armadaref05_Ops.mono _ _ _
   | exact LeO.none _
   | refine LeO.ite ?_ ?_
   | refine LeO.bind ?_ (fun _ => ?_)
theorem armadalaw05_FilesCodes.mono : ∀ a0 a1 k, LeO (armadalaw05_FilesCodes.f k a0 a1) (armadalaw05_FilesCodes.f (k + 1) a0 a1) := by
 intro a0 a1 k
 have ih0 := armadalaw05_FilesCodes.mono_l k
 unfold armadalaw05_FilesCodes.f
 repeat' first
   | (with_reducible exact ih0 _ _ _)
   | (with_reducible exact armadalaw05_live.mono _)
   | (with_reducible exact armadaref05_Decode.mono _ _)
   | (with_reducible exact armadaref05_Encode.mono _ _)
   | (with_reducible exact armadaref05_Few.mono _ _)
   | (with_reducible exact armadaref05_Ops.mono _ _ _)
   | (with_reducible exact LeO.refl _)
   | (with_reducible exact LeO.none _)
   | (with_reducible refine LeO.ite ?_ ?_)
   | (with_reducible refine LeO.bind ?_ (fun _ => ?_))
   | exact ih0 _ _ _
   | exact armadalaw05_live.mono _
   | exact armadaref05_Decode.mono _ _
   | exact armadaref05_Encode.mono _ _
   | exact armadaref05_Few.mono _ _
   | exact armadaref05_Ops.mono _ _ _
   | exact LeO.none _
   | refine LeO.ite ?_ ?_
   | refine LeO.bind ?_ (fun _ => ?_)
set_option maxHeartbeats 8000000 in
set_option maxRecDepth 100000 in
theorem armadalaw05_FilesCodes.calls (k : Nat) (A0 : Option Addr) (c0 : Nat) (l0 : List (S45)) (a1 : ByteArray) (r : Bool) (w : World) (hr0 : Kd.C k45 w A0 l0.length l0) (hc0 : l0.length ≤ c0) (h : armadalaw05_FilesCodes.f k l0 a1 = some r) (hT_ : r = true := by rfl) :
  Calls Tryd.prog 5 #[.slice A0 l0.length c0, .string a1] w fun e w' => e = .returned (.bool r) ∧ Below w.heap.size w w' := by
 subst hT_
 have HR0 := Aside0.mk hr0
 have HC0 := Aside0.mk hc0
 clear hr0 hc0
 have HB := Aside0.mk (Below.refl w.heap.size w)
 have H := h
 unfold armadalaw05_FilesCodes.f at H
 clear h
 have HC3 := Aside0.mk H
 clear H
 go_enter Tryd.func5, Tryd.ntmps5
 go_upto_region 1 with (fail)
 go_cut [20] (fun v20 wc => ∃ (kq : Nat) (x20_2 : Bool), v20 = .bool x20_2 ∧ Aside0 (armadalaw05_FilesCodes.j0 kq l0 a1 x20_2 = some true) ∧ Aside0 (kq ≤ k) ∧ Aside0 (Below w.heap.size w wc))
 case first =>
  have H := HC3.out
  clear HC3
  replace H := Option.bind_eq_some_iff.mp H
  obtain ⟨t330, A40, H⟩ := H
  try dsimp only at H
  have A4 := Aside0.mk A40
  clear A40
  by_cases c5 : t330 = true
  ·subst c5
   rw [if_pos rfl] at H
   have H' := Aside0.mk H
   clear H
   go_wp2_with (first | ((with_reducible refine gate_callee (f := 20) rfl ?_); refine gL (some 14) Tryd.func20 #[.slice A0 l0.length c0] ?_; (with_reducible refine (armadaref05_Few.calls k _ _ l0 true _ ?side1 ?side2 A4.out).mono ?_); (case side1 => exact qC HR0); (case side2 => exact HC0.out); rintro e w' ⟨rfl, ⟨nd, rfl⟩⟩; refine ⟨_, rfl, ?_⟩) | (go_at_call 20; (with_reducible refine (armadaref05_Few.calls k _ _ l0 true _ ?side1 ?side2 A4.out).mono ?_); (case side1 => exact qC HR0); (case side2 => exact HC0.out); rintro e w' ⟨rfl, ⟨nd, rfl⟩⟩))
   go_meet
   case rel => exact ⟨_, (decide ((a1.size : Int) > 5000)), eY, H', ⟨by first | omega | exact Nat.le_refl _⟩, ⟨qH⟩⟩
  ·replace c5 := Bool.eq_false_iff.mpr c5
   subst c5
   rw [if_neg nF_] at H
   have H' := Aside0.mk H
   clear H
   go_wp2_with (first | ((with_reducible refine gate_callee (f := 20) rfl ?_); refine gL (some 14) Tryd.func20 #[.slice A0 l0.length c0] ?_; (with_reducible refine (armadaref05_Few.calls k _ _ l0 false _ ?side1 ?side2 A4.out).mono ?_); (case side1 => exact qC HR0); (case side2 => exact HC0.out); rintro e w' ⟨rfl, ⟨nd, rfl⟩⟩; refine ⟨_, rfl, ?_⟩) | (go_at_call 20; (with_reducible refine (armadaref05_Few.calls k _ _ l0 false _ ?side1 ?side2 A4.out).mono ?_); (case side1 => exact qC HR0); (case side2 => exact HC0.out); rintro e w' ⟨rfl, ⟨nd, rfl⟩⟩))
   go_meet
   case rel => exact ⟨_, (true), eY, H', ⟨by first | omega | exact Nat.le_refl _⟩, ⟨qH⟩⟩
 case rest =>
  clear HC3
  (try clear p2)
  obtain ⟨kq, x20_2, rfl, HA, HJ2, HB⟩ := hcut
  cases kq with
  | zero => exact absurd HA.out (by simp [armadalaw05_FilesCodes.j0])
  | succ kj2 =>
   have H := HA.out
   clear HA
   simp only [armadalaw05_FilesCodes.j0] at H
   by_cases c6 : x20_2 = true
   ·subst c6
    rw [if_pos rfl] at H
    replace H := Option.bind_eq_some_iff.mp H
    obtain ⟨t331, A70, H⟩ := H
    try dsimp only at H
    have A7 := Aside0.mk A70
    clear A70
    obtain rfl := Option.some.inj H
    go_wp2_with (first | ((with_reducible refine gate_callee (f := 11) rfl ?_); refine gL (some 21) Tryd.func11 #[] ?_; (with_reducible refine (armadalaw05_live.calls kj2  true _ A7.out).mono ?_); rintro e w8 ⟨rfl, hb⟩; refine ⟨_, rfl, ?_⟩; have n0_ := wH hb; clear HB; have HB := n0_; clear n0_; (try clear hb); (try clear hb2); (try clear hk); (try clear hi)))
    go_ret
    exact ⟨eX, qH⟩
   ·replace c6 := Bool.eq_false_iff.mpr c6
    subst c6
    rw [if_neg nF_] at H
    replace H := Option.bind_eq_some_iff.mp H
    obtain ⟨⟨t332, t333⟩, A90, H⟩ := H
    try dsimp only at H
    have A9 := Aside0.mk A90
    clear A90
    replace H := Option.bind_eq_some_iff.mp H
    obtain ⟨⟨t334, t335⟩, A100, H⟩ := H
    try dsimp only at H
    have A10 := Aside0.mk A100
    clear A100
    replace H := Option.bind_eq_some_iff.mp H
    obtain ⟨⟨t336, t337⟩, A110, H⟩ := H
    try dsimp only at H
    have A11 := Aside0.mk A110
    clear A110
    replace H := Option.bind_eq_some_iff.mp H
    obtain ⟨⟨t340, t341⟩, A120, H⟩ := H
    try dsimp only at H
    have A12 := Aside0.mk A120
    clear A120
    by_cases c13 : t332.toList = t334.toList
    ·rw [if_pos c13] at H
     have c13b0 : (t332.toList == t334.toList) = true := beq_iff_eq.mpr c13
     have c13b1 : (t332.toList != t334.toList) = false := bne_eq_false_iff_eq.mpr c13
     clear c13
     by_cases c14 : t333 = t335
     ·rw [if_pos c14] at H
      have c14b0 : (t333 == t335) = true := beq_iff_eq.mpr c14
      have c14b1 : (t333 != t335) = false := bne_eq_false_iff_eq.mpr c14
      clear c14
      replace H := Option.bind_eq_some_iff.mp H
      obtain ⟨t344, A150, H⟩ := H
      try dsimp only at H
      have A15 := Aside0.mk A150
      clear A150
      by_cases c16 : t344 = true
      ·subst c16
       rw [if_pos rfl] at H
       by_cases c17 : t337 = t341
       ·rw [if_pos c17] at H
        have c17b0 : (t337 == t341) = true := beq_iff_eq.mpr c17
        have c17b1 : (t337 != t341) = false := bne_eq_false_iff_eq.mpr c17
        clear c17
        replace H := Option.bind_eq_some_iff.mp H
        obtain ⟨t345, A180, H⟩ := H
        try dsimp only at H
        have A18 := Aside0.mk A180
        clear A180
        obtain rfl := Option.some.inj H
        go_wp2_with (first | ((with_reducible refine gate_callee (f := 26) rfl ?_); refine gL (some 24) Tryd.func26 #[.slice A0 l0.length c0] ?_; (with_reducible refine (files_Encode.calls _ _ l0 t332 t333 _ ?side1 ?side2 A9.out).mono ?_); (case side1 => exact qC HR0); (case side2 => exact HC0.out); rintro e w19 ⟨rfl, hb⟩; refine ⟨_, rfl, ?_⟩; have n0_ := wH hb; clear HB; have HB := n0_; clear n0_; (try clear hb); (try clear hb2); (try clear hk); (try clear hi)) | ((with_reducible refine gate_callee (f := 27) rfl ?_); refine gL (some 29) Tryd.func27 #[.slice A0 l0.length c0] ?_; (with_reducible refine (armadaref05_Encode.calls kj2 _ _ l0 t334 t335 _ ?side1 ?side2 A10.out).mono ?_); (case side1 => exact qC HR0); (case side2 => exact HC0.out); rintro e w20 ⟨rfl, hb⟩; refine ⟨_, rfl, ?_⟩; have n0_ := wH hb; clear HB; have HB := n0_; clear n0_; (try clear hb); (try clear hb2); (try clear hk); (try clear hi)) | ((with_reducible refine gate_callee (f := 28) rfl ?_); refine gL (some 34) Tryd.func28 #[.string a1] ?_; (with_reducible refine (files_Decode.calls a1 t336 t337 _ A11.out).mono ?_); rintro e w21 ⟨v338, rfl, ho0, hb⟩; refine ⟨_, rfl, ?_⟩; have n0_ := Aside0.mk (Kd.R_lower ho0 (below_size qH)); have n1_ := wH hb; clear HB; have HO339 := n0_; have HB := n1_; clear n0_ n1_; (try clear hb); (try clear hb2); (try clear hk); (try clear hi); (try clear ho0)) | ((with_reducible refine gate_callee (f := 29) rfl ?_); refine gL (some 39) Tryd.func29 #[.string a1] ?_; (with_reducible refine (armadaref05_Decode.calls kj2 a1 t340 t341 _ A12.out).mono ?_); rintro e w22 ⟨v342, rfl, ho0, hb⟩; refine ⟨_, rfl, ?_⟩; have n0_ := Aside0.mk (Kd.R_elder' (qR HO339.out) (Kd.R_base ho0) hb); have n1_ := Aside0.mk (Kd.R_lower (Kd.R_new' ho0 (Kd.R_lt (qR HO339.out))) (below_size qH)); have n2_ := wH hb; clear HO339; clear HB; have HO339 := n0_; have HO343 := n1_; have HB := n2_; clear n0_ n1_ n2_; (try clear hb); (try clear hb2); (try clear hk); (try clear hi); (try clear ho0); obtain ⟨Ao23, co23, eo23⟩ := Kd.R_slice HO339.out; subst eo23; obtain ⟨Ao24, co24, eo24⟩ := Kd.R_slice HO343.out; subst eo24) | (go_at_call 23; (with_reducible refine (armadaref05_Ops.calls kj2 _ _ t336 _ _ t340 true _ ?side1 ?side2 ?side3 ?side4 A15.out).mono ?_); (case side1 => exact qK (Kd.R_reads' HO339.out).2.2); (case side2 => exact (Kd.R_reads' HO339.out).2.1); (case side3 => exact qK (Kd.R_reads' HO343.out).2.2); (case side4 => exact (Kd.R_reads' HO343.out).2.1); rintro e w' ⟨rfl, ⟨nd, rfl⟩⟩) | (go_at_call 11; (with_reducible refine (armadalaw05_live.calls kj2  true _ A18.out).mono ?_); rintro e w25 ⟨rfl, hb⟩; have n0_ := Aside0.mk (Kd.R_below (qR HO339.out) hb); have n1_ := Aside0.mk (Kd.R_below (qR HO343.out) hb); have n2_ := wH hb; clear HO339; clear HO343; clear HB; have HB := n2_; clear n0_ n1_ n2_; (try clear hb); (try clear hb2); (try clear hk); (try clear hi)))
        go_ret
        exact ⟨eX, qH⟩
       ·rw [if_neg c17] at H
        have c17b0 : (t337 == t341) = false := beq_eq_false_iff_ne.mpr c17
        have c17b1 : (t337 != t341) = true := bne_iff_ne.mpr c17
        exact absurd H (by simp)
      ·replace c16 := Bool.eq_false_iff.mpr c16
       subst c16
       rw [if_neg nF_] at H
       exact absurd H (by simp)
     ·rw [if_neg c14] at H
      have c14b0 : (t333 == t335) = false := beq_eq_false_iff_ne.mpr c14
      have c14b1 : (t333 != t335) = true := bne_iff_ne.mpr c14
      exact absurd H (by simp)
    ·rw [if_neg c13] at H
     have c13b0 : (t332.toList == t334.toList) = false := beq_eq_false_iff_ne.mpr c13
     have c13b1 : (t332.toList != t334.toList) = true := bne_iff_ne.mpr c13
     exact absurd H (by simp)
end Go.Proofs.YtnhhbmekjoanbaaDoor.P
