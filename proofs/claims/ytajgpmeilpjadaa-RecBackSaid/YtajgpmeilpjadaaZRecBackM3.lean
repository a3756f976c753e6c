/- Printed functions, merged. -/
import Derived.Test.YtajgpmeilpjadaaZRecBackM0
import Derived.Test.YtajgpmeilpjadaaZRecBackM1
import Derived.Test.YtajgpmeilpjadaaZRecBackM2
import Derived.Test.YtajgpmeilpjadaaZRecBackGJoin
namespace Go.Proofs.Ytajgpmeilpjadaa.P
open Go.RowKit Go.Proofs.YtajgpmeilpjadaaW.PrintWords Go.Proofs.YtajgpmeilpjadaaW.PrintLast Go.Proofs.YtajgpmeilpjadaaW.PrintMore
attribute [local go_sem] max2_int min2_int max_two min_two max_three min_three max_four min_four   -- for this text's walks alone
set_option linter.unusedVariables false
set_option linter.unusedSimpArgs false
attribute [local go_sem high] eqA26
def armadalaw03_live.j0 : Nat → Bool → ByteArray → Bool → Bool → Bool → List ByteArray → ByteArray → Bool → Bool → Bool → Int → Int → Int → Int → Int → Int → Int → Int → Int → Int → Option (Bool)
  | 0, _, _, _, _, _, _, _, _, _, _, _, _, _, _, _, _, _, _, _, _ => none
  | k + 1, x2, x3, x4, x6, x8, x9, x10, x11, x13, x50, x157000, x157001, x157002, x157003, x157004, x166000, x166001, x166002, x166003, x166004 => if x50 = true then (some false) else (if x2 = true then (if x4 = true then (if x6 = true then (if (x166000 == x157000 && (x166001 == x157001 && (x166002 == x157002 && (x166003 == x157003 && (x166004 == x157004))))) = true then (if 0 ≤ 14 then (if 14 ≤ (x3.size : Int) then (if (x3.extract 0 14).toList = ([72, 2, 0, 0, 0, 3, 0, 0, 0, 4, 0, 0, 0, 2] : List UInt8) then (if x8 = true then (some false) else (if 1 < (x9.length : Int) then (if 0 ≤ 3 then (if 3 ≤ ((rdOf ByteArray.empty x9 1).size : Int) then (if ((rdOf ByteArray.empty x9 1).extract 0 3).toList = ([68, 120, 0] : List UInt8) then (if x10.toList = ([48, 49, 50, 51, 52, 53, 54, 55, 56, 57, 48, 49, 50, 51, 52, 53, 54, 55, 56, 57, 48, 49, 50, 51, 52, 53, 54, 55, 56, 57, 48, 120] : List UInt8) then (if x11 = true then (if x13 = true then (some false) else ((rec_Count.f 31).bind fun t181 => (if t181 = 1 then ((rec_Count.f 32).bind fun t182 => (if t182 = 2 then ((rec_Count.f 0).bind fun t183 => (if t183 = 0 then ((rec_Count.f (-1)).bind fun t184 => (if t184 = (-1) then ((rec_Count.f 4097).bind fun t185 => (some (t185 == (-1)))) else (some false))) else (some false))) else (some false))) else (some false)))) else (some false)) else (some false)) else (some false)) else (none)) else (none)) else (none))) else (some false)) else (none)) else (none)) else (some false)) else (some false)) else (some false)) else (some false))
def armadalaw03_live.f (k : Nat)  : Option (Bool) := (rec_Make.f k 2 3 4 (⟨#[97, 98]⟩ : ByteArray)).bind fun bt150 => ((rec_Head_Text.f k bt150.1 bt150.2.1 bt150.2.2.1 bt150.2.2.2.1 bt150.2.2.2.2.1).bind fun bt157 => ((rec_Read.f k bt157.1).bind fun bt159 => ((rec_Make.f k 3 0 0 (⟨#[]⟩ : ByteArray)).bind fun bt166 => ((rec_Cut.f k (⟨#[48, 49, 50, 51, 52, 53, 54, 55, 56, 57, 48, 49, 50, 51, 52, 53, 54, 55, 56, 57, 48, 49, 50, 51, 52, 53, 54, 55, 56, 57, 48, 120]⟩ : ByteArray)).bind fun t173 => ((rec_Join.f k t173 32).bind fun bt176 => ((rec_Join.f k t173 31).bind fun bt178 => (if (bt157.1.size : Int) = 32 then (armadalaw03_live.j0 k bt150.2.2.2.2.2 bt157.1 bt157.2 bt159.2.2.2.2.2 bt166.2.2.2.2.2 t173 bt176.1 bt176.2 bt178.2 ((t173.length : Int) != 2) bt150.1 bt150.2.1 bt150.2.2.1 bt150.2.2.2.1 bt150.2.2.2.2.1 bt159.1 bt159.2.1 bt159.2.2.1 bt159.2.2.2.1 bt159.2.2.2.2.1) else (armadalaw03_live.j0 k bt150.2.2.2.2.2 bt157.1 bt157.2 bt159.2.2.2.2.2 bt166.2.2.2.2.2 t173 bt176.1 bt176.2 bt178.2 true bt150.1 bt150.2.1 bt150.2.2.1 bt150.2.2.2.1 bt150.2.2.2.2.1 bt159.1 bt159.2.1 bt159.2.2.1 bt159.2.2.2.1 bt159.2.2.2.2.1))))))))
theorem armadalaw03_live.mono_l : ∀ k, (∀ y0 y1 y2 y3 y4 y5 y6 y7 y8 y9 y10 y11 y12 y13 y14 y15 y16 y17 y18 y19, LeO (armadalaw03_live.j0 k y0 y1 y2 y3 y4 y5 y6 y7 y8 y9 y10 y11 y12 y13 y14 y15 y16 y17 y18 y19) (armadalaw03_live.j0 (k + 1) y0 y1 y2 y3 y4 y5 y6 y7 y8 y9 y10 y11 y12 y13 y14 y15 y16 y17 y18 y19))
  | 0 => fun _ _ _ _ _ _ _ _ _ _ _ _ _ _ _ _ _ _ _ _ r h => by simp [armadalaw03_live.j0] at h
  | k + 1 => by
    have ih0 := armadalaw03_live.mono_l k
    · intro y0 y1 y2 y3 y4 y5 y6 y7 y8 y9 y10 y11 y12 y13 y14 y15 y16 y17 y18 y19
      unfold armadalaw03_live.j0
      repeat' first
      | (with_reducible exact ih0 _ _ _ _ _ _ _ _ _ _ _ _ _ _ _ _ _ _ _ _)
      | (with_reducible exact rec_Cut.mono _ _)
      | (with_reducible exact rec_Head_Text.mono _ _ _ _ _ _)
      | (with_reducible exact rec_Join.mono _ _ _)
      | (with_reducible exact rec_Make.mono _ _ _ _ _)
      | (with_reducible exact rec_Read.mono _ _)
      | (with_reducible exact LeO.refl _)
      | (with_reducible exact LeO.none _)
      | (with_reducible refine LeO.ite ?_ ?_)
      | (with_reducible refine LeO.bind ?_ (fun _ => ?_))
      | exact ih0 _ _ _ _ _ _ _ _ _ _ _ _ _ _ _ _ _ _ _ _
      | exact rec_Cut.mono _ _
      | exact rec_Head_Text.mono _ _ _ _ _ _
      | exact rec_Join.mono _ _ _
      | exact rec_Make.mono _ _ _ _ _
      | exact rec_Read.mono _ _
      | exact LeO.none _
      | refine LeO.ite ?_ ?_
      | refine LeO.bind ?_ (fun _ => ?_)
theorem armadalaw03_live.mono : ∀ k, LeO (armadalaw03_live.f k ) (armadalaw03_live.f (k + 1) ) := by
  intro  k
  have ih0 := armadalaw03_live.mono_l k
  unfold armadalaw03_live.f
  repeat' first
      | (with_reducible exact ih0 _ _ _ _ _ _ _ _ _ _ _ _ _ _ _ _ _ _ _ _)
      | (with_reducible exact rec_Cut.mono _ _)
      | (with_reducible exact rec_Head_Text.mono _ _ _ _ _ _)
      | (with_reducible exact rec_Join.mono _ _ _)
      | (with_reducible exact rec_Make.mono _ _ _ _ _)
      | (with_reducible exact rec_Read.mono _ _)
      | (with_reducible exact LeO.refl _)
      | (with_reducible exact LeO.none _)
      | (with_reducible refine LeO.ite ?_ ?_)
      | (with_reducible refine LeO.bind ?_ (fun _ => ?_))
      | exact ih0 _ _ _ _ _ _ _ _ _ _ _ _ _ _ _ _ _ _ _ _
      | exact rec_Cut.mono _ _
      | exact rec_Head_Text.mono _ _ _ _ _ _
      | exact rec_Join.mono _ _ _
      | exact rec_Make.mono _ _ _ _ _
      | exact rec_Read.mono _ _
      | exact LeO.none _
      | refine LeO.ite ?_ ?_
      | refine LeO.bind ?_ (fun _ => ?_)
set_option maxHeartbeats 8000000 in
set_option maxRecDepth 100000 in
theorem armadalaw03_live.calls (k : Nat)  (r : Bool) (w : World) (h : armadalaw03_live.f k  = some r) (hT_ : r = true := by rfl) :
    Calls Try.prog 8 #[] w fun e w' => e = .returned (.bool r) ∧ Below w.heap.size w w' := by
  subst hT_
  have hu26 := Try.underlying26
  have HB := Aside0.mk (Below.refl w.heap.size w)
  have H : ((rec_Make.f k 2 3 4 (⟨#[97, 98]⟩ : ByteArray)).bind fun bt150 => ((rec_Head_Text.f k bt150.1 bt150.2.1 bt150.2.2.1 bt150.2.2.2.1 bt150.2.2.2.2.1).bind fun bt157 => ((rec_Read.f k bt157.1).bind fun bt159 => ((rec_Make.f k 3 0 0 (⟨#[]⟩ : ByteArray)).bind fun bt166 => ((rec_Cut.f k (⟨#[48, 49, 50, 51, 52, 53, 54, 55, 56, 57, 48, 49, 50, 51, 52, 53, 54, 55, 56, 57, 48, 49, 50, 51, 52, 53, 54, 55, 56, 57, 48, 120]⟩ : ByteArray)).bind fun t173 => ((rec_Join.f k t173 32).bind fun bt176 => ((rec_Join.f k t173 31).bind fun bt178 => (if (bt157.1.size : Int) = 32 then (armadalaw03_live.j0 k bt150.2.2.2.2.2 bt157.1 bt157.2 bt159.2.2.2.2.2 bt166.2.2.2.2.2 t173 bt176.1 bt176.2 bt178.2 ((t173.length : Int) != 2) bt150.1 bt150.2.1 bt150.2.2.1 bt150.2.2.2.1 bt150.2.2.2.2.1 bt159.1 bt159.2.1 bt159.2.2.1 bt159.2.2.2.1 bt159.2.2.2.2.1) else (armadalaw03_live.j0 k bt150.2.2.2.2.2 bt157.1 bt157.2 bt159.2.2.2.2.2 bt166.2.2.2.2.2 t173 bt176.1 bt176.2 bt178.2 true bt150.1 bt150.2.1 bt150.2.2.1 bt150.2.2.2.1 bt150.2.2.2.2.1 bt159.1 bt159.2.1 bt159.2.2.1 bt159.2.2.2.1 bt159.2.2.2.2.1))))))))) = some true := h
  clear h
  replace H := Option.bind_eq_some_iff.mp H
  obtain ⟨⟨t150, t151, t152, t153, t154, t155⟩, A10, H⟩ := H
  replace H : ((rec_Head_Text.f k t150 t151 t152 t153 t154).bind fun bt157 => ((rec_Read.f k bt157.1).bind fun bt159 => ((rec_Make.f k 3 0 0 (⟨#[]⟩ : ByteArray)).bind fun bt166 => ((rec_Cut.f k (⟨#[48, 49, 50, 51, 52, 53, 54, 55, 56, 57, 48, 49, 50, 51, 52, 53, 54, 55, 56, 57, 48, 49, 50, 51, 52, 53, 54, 55, 56, 57, 48, 120]⟩ : ByteArray)).bind fun t173 => ((rec_Join.f k t173 32).bind fun bt176 => ((rec_Join.f k t173 31).bind fun bt178 => (if (bt157.1.size : Int) = 32 then (armadalaw03_live.j0 k t155 bt157.1 bt157.2 bt159.2.2.2.2.2 bt166.2.2.2.2.2 t173 bt176.1 bt176.2 bt178.2 ((t173.length : Int) != 2) t150 t151 t152 t153 t154 bt159.1 bt159.2.1 bt159.2.2.1 bt159.2.2.2.1 bt159.2.2.2.2.1) else (armadalaw03_live.j0 k t155 bt157.1 bt157.2 bt159.2.2.2.2.2 bt166.2.2.2.2.2 t173 bt176.1 bt176.2 bt178.2 true t150 t151 t152 t153 t154 bt159.1 bt159.2.1 bt159.2.2.1 bt159.2.2.2.1 bt159.2.2.2.2.1)))))))) = some true := H
  have A1 := Aside0.mk A10
  clear A10
  replace H := Option.bind_eq_some_iff.mp H
  obtain ⟨⟨t157, t158⟩, A20, H⟩ := H
  replace H : ((rec_Read.f k t157).bind fun bt159 => ((rec_Make.f k 3 0 0 (⟨#[]⟩ : ByteArray)).bind fun bt166 => ((rec_Cut.f k (⟨#[48, 49, 50, 51, 52, 53, 54, 55, 56, 57, 48, 49, 50, 51, 52, 53, 54, 55, 56, 57, 48, 49, 50, 51, 52, 53, 54, 55, 56, 57, 48, 120]⟩ : ByteArray)).bind fun t173 => ((rec_Join.f k t173 32).bind fun bt176 => ((rec_Join.f k t173 31).bind fun bt178 => (if (t157.size : Int) = 32 then (armadalaw03_live.j0 k t155 t157 t158 bt159.2.2.2.2.2 bt166.2.2.2.2.2 t173 bt176.1 bt176.2 bt178.2 ((t173.length : Int) != 2) t150 t151 t152 t153 t154 bt159.1 bt159.2.1 bt159.2.2.1 bt159.2.2.2.1 bt159.2.2.2.2.1) else (armadalaw03_live.j0 k t155 t157 t158 bt159.2.2.2.2.2 bt166.2.2.2.2.2 t173 bt176.1 bt176.2 bt178.2 true t150 t151 t152 t153 t154 bt159.1 bt159.2.1 bt159.2.2.1 bt159.2.2.2.1 bt159.2.2.2.2.1))))))) = some true := H
  have A2 := Aside0.mk A20
  clear A20
  replace H := Option.bind_eq_some_iff.mp H
  obtain ⟨⟨t159, t160, t161, t162, t163, t164⟩, A30, H⟩ := H
  replace H : ((rec_Make.f k 3 0 0 (⟨#[]⟩ : ByteArray)).bind fun bt166 => ((rec_Cut.f k (⟨#[48, 49, 50, 51, 52, 53, 54, 55, 56, 57, 48, 49, 50, 51, 52, 53, 54, 55, 56, 57, 48, 49, 50, 51, 52, 53, 54, 55, 56, 57, 48, 120]⟩ : ByteArray)).bind fun t173 => ((rec_Join.f k t173 32).bind fun bt176 => ((rec_Join.f k t173 31).bind fun bt178 => (if (t157.size : Int) = 32 then (armadalaw03_live.j0 k t155 t157 t158 t164 bt166.2.2.2.2.2 t173 bt176.1 bt176.2 bt178.2 ((t173.length : Int) != 2) t150 t151 t152 t153 t154 t159 t160 t161 t162 t163) else (armadalaw03_live.j0 k t155 t157 t158 t164 bt166.2.2.2.2.2 t173 bt176.1 bt176.2 bt178.2 true t150 t151 t152 t153 t154 t159 t160 t161 t162 t163)))))) = some true := H
  have A3 := Aside0.mk A30
  clear A30
  replace H := Option.bind_eq_some_iff.mp H
  obtain ⟨⟨t166, t167, t168, t169, t170, t171⟩, A40, H⟩ := H
  replace H : ((rec_Cut.f k (⟨#[48, 49, 50, 51, 52, 53, 54, 55, 56, 57, 48, 49, 50, 51, 52, 53, 54, 55, 56, 57, 48, 49, 50, 51, 52, 53, 54, 55, 56, 57, 48, 120]⟩ : ByteArray)).bind fun t173 => ((rec_Join.f k t173 32).bind fun bt176 => ((rec_Join.f k t173 31).bind fun bt178 => (if (t157.size : Int) = 32 then (armadalaw03_live.j0 k t155 t157 t158 t164 t171 t173 bt176.1 bt176.2 bt178.2 ((t173.length : Int) != 2) t150 t151 t152 t153 t154 t159 t160 t161 t162 t163) else (armadalaw03_live.j0 k t155 t157 t158 t164 t171 t173 bt176.1 bt176.2 bt178.2 true t150 t151 t152 t153 t154 t159 t160 t161 t162 t163))))) = some true := H
  have A4 := Aside0.mk A40
  clear A40
  replace H := Option.bind_eq_some_iff.mp H
  obtain ⟨t173, A50, H⟩ := H
  replace H : ((rec_Join.f k t173 32).bind fun bt176 => ((rec_Join.f k t173 31).bind fun bt178 => (if (t157.size : Int) = 32 then (armadalaw03_live.j0 k t155 t157 t158 t164 t171 t173 bt176.1 bt176.2 bt178.2 ((t173.length : Int) != 2) t150 t151 t152 t153 t154 t159 t160 t161 t162 t163) else (armadalaw03_live.j0 k t155 t157 t158 t164 t171 t173 bt176.1 bt176.2 bt178.2 true t150 t151 t152 t153 t154 t159 t160 t161 t162 t163)))) = some true := H
  have A5 := Aside0.mk A50
  clear A50
  replace H := Option.bind_eq_some_iff.mp H
  obtain ⟨⟨t176, t177⟩, A60, H⟩ := H
  replace H : ((rec_Join.f k t173 31).bind fun bt178 => (if (t157.size : Int) = 32 then (armadalaw03_live.j0 k t155 t157 t158 t164 t171 t173 t176 t177 bt178.2 ((t173.length : Int) != 2) t150 t151 t152 t153 t154 t159 t160 t161 t162 t163) else (armadalaw03_live.j0 k t155 t157 t158 t164 t171 t173 t176 t177 bt178.2 true t150 t151 t152 t153 t154 t159 t160 t161 t162 t163))) = some true := H
  have A6 := Aside0.mk A60
  clear A60
  replace H := Option.bind_eq_some_iff.mp H
  obtain ⟨⟨t178, t179⟩, A70, H⟩ := H
  replace H : (if (t157.size : Int) = 32 then (armadalaw03_live.j0 k t155 t157 t158 t164 t171 t173 t176 t177 t179 ((t173.length : Int) != 2) t150 t151 t152 t153 t154 t159 t160 t161 t162 t163) else (armadalaw03_live.j0 k t155 t157 t158 t164 t171 t173 t176 t177 t179 true t150 t151 t152 t153 t154 t159 t160 t161 t162 t163)) = some true := H
  have A7 := Aside0.mk A70
  clear A70
  have HC8 := Aside0.mk H
  clear H
  go_enter Try.func8, Try.ntmps8
  go_upto_region 8 with (first | ((with_reducible refine gate_callee (f := 13) rfl ?_); refine goesL_ (some 15) rfl rfl Try.func13 (by kernel_rfl) rfl #[.int .i64 2, .int .i64 3, .int .i64 4, .string (⟨#[97, 98]⟩ : ByteArray)] rfl (by (try simp only [List.map_toArray, List.map_cons, List.map_nil]); first | done | rfl | (simp only [List.length_drop, List.length_take]; rfl)) ?_; (with_reducible refine (rec_Make.calls k 2 3 4 (⟨#[97, 98]⟩ : ByteArray) t150 t151 t152 t153 t154 t155 _ A1.out).mono ?_); rintro e w9 ⟨rfl, hb⟩; refine ⟨_, rfl, ?_⟩; have n0_ := Aside0.mk (below_step (by repeat (first | (with_reducible first | exact HB.out | apply below_alloc | apply pw_below_drewN | apply below_drew1) | exact HB.out)) hb); clear HB; have HB := n0_; clear n0_; (try clear hb); (try clear hb2); (try clear hk); (try clear hi)) | ((with_reducible refine gate_dst (N := 1) rfl ?_); (try (refine gate_guard (by rfl) ?_; dsimp only)); refine box_event ?hg (N := 1) ?hd (cs := #[.int .i64 0, .int .i64 0, .int .i64 0, .int .i64 0, .int .i64 0]) (t := 26) ?hr ?_; (case hd => rfl); (case hg => rfl); (case hr => first | (go_simp; done) | (go_simp; rfl)); intro gb156 hg w10 hbox hb; have n0_ := Aside0.mk (below_step (by repeat (first | (with_reducible first | exact HB.out | apply below_alloc | apply pw_below_drewN | apply below_drew1) | exact HB.out)) hb); have n1_ := Aside0.mk (hbox); have n2_ := Aside0.mk ((by rw [hg]; exact (below_size (by repeat (first | (with_reducible first | exact HB.out | apply below_alloc | apply pw_below_drewN | apply below_drew1) | exact HB.out))) : w.heap.size ≤ gb156)); have n3_ := Aside0.mk ((by rw [hg]; exact (below_size (by repeat (first | (with_reducible first | exact HB.out | apply below_alloc | apply pw_below_drewN | apply below_drew1) | exact HB.out))) : w.heap.size ≤ gb156)); clear HB; have HB := n0_; have BK156 := n1_; have GW156 := n2_; have GE156 := n3_; clear n0_ n1_ n2_ n3_; clear hb hbox hg; have hcz11_0 : w10.cell? ⟨gb156, 0, none⟩ = some (.int .i64 0) := (blk_cell BK156.out 0).trans rfl; have hcz11_1 : w10.cell? ⟨gb156, 1, none⟩ = some (.int .i64 0) := (blk_cell BK156.out 1).trans rfl; have hcz11_2 : w10.cell? ⟨gb156, 2, none⟩ = some (.int .i64 0) := (blk_cell BK156.out 2).trans rfl; have hcz11_3 : w10.cell? ⟨gb156, 3, none⟩ = some (.int .i64 0) := (blk_cell BK156.out 3).trans rfl; have hcz11_4 : w10.cell? ⟨gb156, 4, none⟩ = some (.int .i64 0) := (blk_cell BK156.out 4).trans rfl; have hfz11_0 := blk_frozen BK156.out 0; have hfz11_1 := blk_frozen BK156.out 1; have hfz11_2 := blk_frozen BK156.out 2; have hfz11_3 := blk_frozen BK156.out 3; have hfz11_4 := blk_frozen BK156.out 4) | ((with_reducible refine gate_callee (f := 9) rfl ?_); refine goesL_ (some 20) rfl rfl Try.func9 (by kernel_rfl) rfl #[.agg #[.int .i64 t150, .int .i64 t151, .int .i64 t152, .int .i64 t153, .int .i64 t154]] rfl (by (try simp only [List.map_toArray, List.map_cons, List.map_nil]); first | done | rfl | (simp only [List.length_drop, List.length_take]; rfl)) ?_; (with_reducible refine (rec_Head_Text.calls k t150 t151 t152 t153 t154 t157 t158 _ A2.out).mono ?_); rintro e w12 ⟨rfl, hb⟩; refine ⟨_, rfl, ?_⟩; have n0_ := Aside0.mk (blk_below (g := gb156) (o := .cells #[.int .i64 t150, .int .i64 t151, .int .i64 t152, .int .i64 t153, .int .i64 t154] 26 (0, 0)) (by (with_reducible repeat (first | refine blk_drewN ?_ _ | refine blk_drew ?_ | refine blk_alloc ?_ _)); refine blk_put (cs := #[.int .i64 t150, .int .i64 t151, .int .i64 t152, .int .i64 t153, .int .i64 0]) ?_ 4 _ rfl; (with_reducible repeat (first | refine blk_drewN ?_ _ | refine blk_drew ?_ | refine blk_alloc ?_ _)); refine blk_put (cs := #[.int .i64 t150, .int .i64 t151, .int .i64 t152, .int .i64 0, .int .i64 0]) ?_ 3 _ rfl; (with_reducible repeat (first | refine blk_drewN ?_ _ | refine blk_drew ?_ | refine blk_alloc ?_ _)); refine blk_put (cs := #[.int .i64 t150, .int .i64 t151, .int .i64 0, .int .i64 0, .int .i64 0]) ?_ 2 _ rfl; (with_reducible repeat (first | refine blk_drewN ?_ _ | refine blk_drew ?_ | refine blk_alloc ?_ _)); refine blk_put (cs := #[.int .i64 t150, .int .i64 0, .int .i64 0, .int .i64 0, .int .i64 0]) ?_ 1 _ rfl; (with_reducible repeat (first | refine blk_drewN ?_ _ | refine blk_drew ?_ | refine blk_alloc ?_ _)); refine blk_put (cs := #[.int .i64 0, .int .i64 0, .int .i64 0, .int .i64 0, .int .i64 0]) ?_ 0 _ rfl; (with_reducible repeat (first | refine blk_drewN ?_ _ | refine blk_drew ?_ | refine blk_alloc ?_ _)); exact BK156.out) hb); have n1_ := Aside0.mk (below_step (by repeat (first | (with_reducible first | exact HB.out | apply below_alloc | apply pw_below_drewN | apply below_drew1 | refine below_set ?_ GE156.out) | exact HB.out)) hb); clear BK156; clear HB; have BK156 := n0_; have HB := n1_; clear n0_ n1_; (try clear hb); (try clear hb2); (try clear hk); (try clear hi)) | ((with_reducible refine gate_callee (f := 11) rfl ?_); refine goesL_ (some 25) rfl rfl Try.func11 (by kernel_rfl) rfl #[.string t157] rfl (by (try simp only [List.map_toArray, List.map_cons, List.map_nil]); first | done | rfl | (simp only [List.length_drop, List.length_take]; rfl)) ?_; (with_reducible refine (rec_Read.calls k t157 t159 t160 t161 t162 t163 t164 _ A3.out).mono ?_); rintro e w13 ⟨rfl, hb⟩; refine ⟨_, rfl, ?_⟩; have n0_ := Aside0.mk (blk_below (g := gb156) (o := .cells #[.int .i64 t150, .int .i64 t151, .int .i64 t152, .int .i64 t153, .int .i64 t154] 26 (0, 0)) (by (with_reducible repeat (first | refine blk_drewN ?_ _ | refine blk_drew ?_ | refine blk_alloc ?_ _)); exact BK156.out) hb); have n1_ := Aside0.mk (below_step (by repeat (first | (with_reducible first | exact HB.out | apply below_alloc | apply pw_below_drewN | apply below_drew1 | refine below_set ?_ GE156.out) | exact HB.out)) hb); clear BK156; clear HB; have BK156 := n0_; have HB := n1_; clear n0_ n1_; (try clear hb); (try clear hb2); (try clear hk); (try clear hi)) | ((with_reducible refine gate_dst (N := 5) rfl ?_); (try (refine gate_guard (by rfl) ?_; dsimp only)); refine box_event ?hg (N := 5) ?hd (cs := #[.int .i64 0, .int .i64 0, .int .i64 0, .int .i64 0, .int .i64 0]) (t := 26) ?hr ?_; (case hd => rfl); (case hg => rfl); (case hr => first | (go_simp; done) | (go_simp; rfl)); intro gb165 hg w14 hbox hb; have n0_ := Aside0.mk (blk_below (g := gb156) (o := .cells #[.int .i64 t150, .int .i64 t151, .int .i64 t152, .int .i64 t153, .int .i64 t154] 26 (0, 0)) (by (with_reducible repeat (first | refine blk_drewN ?_ _ | refine blk_drew ?_ | refine blk_alloc ?_ _)); exact BK156.out) hb); have n1_ := Aside0.mk (below_step (by repeat (first | (with_reducible first | exact HB.out | apply below_alloc | apply pw_below_drewN | apply below_drew1 | refine below_set ?_ GE156.out) | exact HB.out)) hb); have n2_ := Aside0.mk (hbox); have n3_ := Aside0.mk ((by rw [hg]; exact (below_size (by repeat (first | (with_reducible first | exact HB.out | apply below_alloc | apply pw_below_drewN | apply below_drew1 | refine below_set ?_ GE156.out) | exact HB.out))) : w.heap.size ≤ gb165)); have n4_ := Aside0.mk ((by rw [hg]; exact (below_size (by repeat (first | (with_reducible first | exact HB.out | apply below_alloc | apply pw_below_drewN | apply below_drew1 | refine below_set ?_ GE156.out) | exact HB.out))) : w.heap.size ≤ gb165)); have n5_ := Aside0.mk ((by rw [hg]; exact Nat.ne_of_lt (blk_lt (g := gb156) (o := .cells #[.int .i64 t150, .int .i64 t151, .int .i64 t152, .int .i64 t153, .int .i64 t154] 26 (0, 0)) (by (with_reducible repeat (first | refine blk_drewN ?_ _ | refine blk_drew ?_ | refine blk_alloc ?_ _)); exact BK156.out)) : gb156 ≠ gb165)); have n6_ := Aside0.mk ((by rw [hg]; exact Nat.ne_of_gt (blk_lt (g := gb156) (o := .cells #[.int .i64 t150, .int .i64 t151, .int .i64 t152, .int .i64 t153, .int .i64 t154] 26 (0, 0)) (by (with_reducible repeat (first | refine blk_drewN ?_ _ | refine blk_drew ?_ | refine blk_alloc ?_ _)); exact BK156.out)) : gb165 ≠ gb156)); clear BK156; clear HB; have BK156 := n0_; have HB := n1_; have BK165 := n2_; have GW165 := n3_; have GE165 := n4_; have NB156_165 := n5_; have NB165_156 := n6_; clear n0_ n1_ n2_ n3_ n4_ n5_ n6_; clear hb hbox hg; have hnb15 := NB165_156.out; have hnc15 := NB156_165.out; have hcz16_0 : w14.cell? ⟨gb165, 0, none⟩ = some (.int .i64 0) := (blk_cell BK165.out 0).trans rfl; have hcz16_1 : w14.cell? ⟨gb165, 1, none⟩ = some (.int .i64 0) := (blk_cell BK165.out 1).trans rfl; have hcz16_2 : w14.cell? ⟨gb165, 2, none⟩ = some (.int .i64 0) := (blk_cell BK165.out 2).trans rfl; have hcz16_3 : w14.cell? ⟨gb165, 3, none⟩ = some (.int .i64 0) := (blk_cell BK165.out 3).trans rfl; have hcz16_4 : w14.cell? ⟨gb165, 4, none⟩ = some (.int .i64 0) := (blk_cell BK165.out 4).trans rfl; have hfz16_0 := blk_frozen BK165.out 0; have hfz16_1 := blk_frozen BK165.out 1; have hfz16_2 := blk_frozen BK165.out 2; have hfz16_3 := blk_frozen BK165.out 3; have hfz16_4 := blk_frozen BK165.out 4) | ((with_reducible refine gate_callee (f := 13) rfl ?_); refine goesL_ (some 29) rfl rfl Try.func13 (by kernel_rfl) rfl #[.int .i64 3, .int .i64 0, .int .i64 0, .string (⟨#[]⟩ : ByteArray)] rfl (by (try simp only [List.map_toArray, List.map_cons, List.map_nil]); first | done | rfl | (simp only [List.length_drop, List.length_take]; rfl)) ?_; (with_reducible refine (rec_Make.calls k 3 0 0 (⟨#[]⟩ : ByteArray) t166 t167 t168 t169 t170 t171 _ A4.out).mono ?_); rintro e w17 ⟨rfl, hb⟩; refine ⟨_, rfl, ?_⟩; have n0_ := Aside0.mk (blk_below (g := gb156) (o := .cells #[.int .i64 t150, .int .i64 t151, .int .i64 t152, .int .i64 t153, .int .i64 t154] 26 (0, 0)) (by (with_reducible repeat (first | refine blk_drewN ?_ _ | refine blk_drew ?_ | refine blk_alloc ?_ _)); refine blk_far ?_ NB156_165.out _; (with_reducible repeat (first | refine blk_drewN ?_ _ | refine blk_drew ?_ | refine blk_alloc ?_ _)); refine blk_far ?_ NB156_165.out _; (with_reducible repeat (first | refine blk_drewN ?_ _ | refine blk_drew ?_ | refine blk_alloc ?_ _)); refine blk_far ?_ NB156_165.out _; (with_reducible repeat (first | refine blk_drewN ?_ _ | refine blk_drew ?_ | refine blk_alloc ?_ _)); refine blk_far ?_ NB156_165.out _; (with_reducible repeat (first | refine blk_drewN ?_ _ | refine blk_drew ?_ | refine blk_alloc ?_ _)); refine blk_far ?_ NB156_165.out _; (with_reducible repeat (first | refine blk_drewN ?_ _ | refine blk_drew ?_ | refine blk_alloc ?_ _)); exact BK156.out) hb); have n1_ := Aside0.mk (blk_below (g := gb165) (o := .cells #[.int .i64 t159, .int .i64 t160, .int .i64 t161, .int .i64 t162, .int .i64 t163] 26 (0, 0)) (by (with_reducible repeat (first | refine blk_drewN ?_ _ | refine blk_drew ?_ | refine blk_alloc ?_ _)); refine blk_put (cs := #[.int .i64 t159, .int .i64 t160, .int .i64 t161, .int .i64 t162, .int .i64 0]) ?_ 4 _ rfl; (with_reducible repeat (first | refine blk_drewN ?_ _ | refine blk_drew ?_ | refine blk_alloc ?_ _)); refine blk_put (cs := #[.int .i64 t159, .int .i64 t160, .int .i64 t161, .int .i64 0, .int .i64 0]) ?_ 3 _ rfl; (with_reducible repeat (first | refine blk_drewN ?_ _ | refine blk_drew ?_ | refine blk_alloc ?_ _)); refine blk_put (cs := #[.int .i64 t159, .int .i64 t160, .int .i64 0, .int .i64 0, .int .i64 0]) ?_ 2 _ rfl; (with_reducible repeat (first | refine blk_drewN ?_ _ | refine blk_drew ?_ | refine blk_alloc ?_ _)); refine blk_put (cs := #[.int .i64 t159, .int .i64 0, .int .i64 0, .int .i64 0, .int .i64 0]) ?_ 1 _ rfl; (with_reducible repeat (first | refine blk_drewN ?_ _ | refine blk_drew ?_ | refine blk_alloc ?_ _)); refine blk_put (cs := #[.int .i64 0, .int .i64 0, .int .i64 0, .int .i64 0, .int .i64 0]) ?_ 0 _ rfl; (with_reducible repeat (first | refine blk_drewN ?_ _ | refine blk_drew ?_ | refine blk_alloc ?_ _)); exact BK165.out) hb); have n2_ := Aside0.mk (below_step (by repeat (first | (with_reducible first | exact HB.out | apply below_alloc | apply pw_below_drewN | apply below_drew1 | refine below_set ?_ GE156.out | refine below_set ?_ GE165.out) | exact HB.out)) hb); clear BK156; clear BK165; clear HB; have BK156 := n0_; have BK165 := n1_; have HB := n2_; clear n0_ n1_ n2_; (try clear hb); (try clear hb2); (try clear hk); (try clear hi)) | ((with_reducible refine gate_dst (N := 7) rfl ?_); (try (refine gate_guard (by rfl) ?_; dsimp only)); refine box_event ?hg (N := 7) ?hd (cs := #[.int .i64 0, .int .i64 0, .int .i64 0, .int .i64 0, .int .i64 0]) (t := 26) ?hr ?_; (case hd => rfl); (case hg => rfl); (case hr => first | (go_simp; done) | (go_simp; rfl)); intro gb172 hg w18 hbox hb; have n0_ := Aside0.mk (blk_below (g := gb156) (o := .cells #[.int .i64 t150, .int .i64 t151, .int .i64 t152, .int .i64 t153, .int .i64 t154] 26 (0, 0)) (by (with_reducible repeat (first | refine blk_drewN ?_ _ | refine blk_drew ?_ | refine blk_alloc ?_ _)); exact BK156.out) hb); have n1_ := Aside0.mk (blk_below (g := gb165) (o := .cells #[.int .i64 t159, .int .i64 t160, .int .i64 t161, .int .i64 t162, .int .i64 t163] 26 (0, 0)) (by (with_reducible repeat (first | refine blk_drewN ?_ _ | refine blk_drew ?_ | refine blk_alloc ?_ _)); exact BK165.out) hb); have n2_ := Aside0.mk (below_step (by repeat (first | (with_reducible first | exact HB.out | apply below_alloc | apply pw_below_drewN | apply below_drew1 | refine below_set ?_ GE156.out | refine below_set ?_ GE165.out) | exact HB.out)) hb); have n3_ := Aside0.mk (hbox); have n4_ := Aside0.mk ((by rw [hg]; exact (below_size (by repeat (first | (with_reducible first | exact HB.out | apply below_alloc | apply pw_below_drewN | apply below_drew1 | refine below_set ?_ GE156.out | refine below_set ?_ GE165.out) | exact HB.out))) : w.heap.size ≤ gb172)); have n5_ := Aside0.mk ((by rw [hg]; exact (below_size (by repeat (first | (with_reducible first | exact HB.out | apply below_alloc | apply pw_below_drewN | apply below_drew1 | refine below_set ?_ GE156.out | refine below_set ?_ GE165.out) | exact HB.out))) : w.heap.size ≤ gb172)); have n6_ := Aside0.mk ((by rw [hg]; exact Nat.ne_of_lt (blk_lt (g := gb156) (o := .cells #[.int .i64 t150, .int .i64 t151, .int .i64 t152, .int .i64 t153, .int .i64 t154] 26 (0, 0)) (by (with_reducible repeat (first | refine blk_drewN ?_ _ | refine blk_drew ?_ | refine blk_alloc ?_ _)); exact BK156.out)) : gb156 ≠ gb172)); have n7_ := Aside0.mk ((by rw [hg]; exact Nat.ne_of_gt (blk_lt (g := gb156) (o := .cells #[.int .i64 t150, .int .i64 t151, .int .i64 t152, .int .i64 t153, .int .i64 t154] 26 (0, 0)) (by (with_reducible repeat (first | refine blk_drewN ?_ _ | refine blk_drew ?_ | refine blk_alloc ?_ _)); exact BK156.out)) : gb172 ≠ gb156)); have n8_ := Aside0.mk ((by rw [hg]; exact Nat.ne_of_lt (blk_lt (g := gb165) (o := .cells #[.int .i64 t159, .int .i64 t160, .int .i64 t161, .int .i64 t162, .int .i64 t163] 26 (0, 0)) (by (with_reducible repeat (first | refine blk_drewN ?_ _ | refine blk_drew ?_ | refine blk_alloc ?_ _)); exact BK165.out)) : gb165 ≠ gb172)); have n9_ := Aside0.mk ((by rw [hg]; exact Nat.ne_of_gt (blk_lt (g := gb165) (o := .cells #[.int .i64 t159, .int .i64 t160, .int .i64 t161, .int .i64 t162, .int .i64 t163] 26 (0, 0)) (by (with_reducible repeat (first | refine blk_drewN ?_ _ | refine blk_drew ?_ | refine blk_alloc ?_ _)); exact BK165.out)) : gb172 ≠ gb165)); clear BK156; clear BK165; clear HB; have BK156 := n0_; have BK165 := n1_; have HB := n2_; have BK172 := n3_; have GW172 := n4_; have GE172 := n5_; have NB156_172 := n6_; have NB172_156 := n7_; have NB165_172 := n8_; have NB172_165 := n9_; clear n0_ n1_ n2_ n3_ n4_ n5_ n6_ n7_ n8_ n9_; clear hb hbox hg; have hnb19 := NB172_156.out; have hnc19 := NB156_172.out; have hnb20 := NB172_165.out; have hnc20 := NB165_172.out; have hcz21_0 : w18.cell? ⟨gb172, 0, none⟩ = some (.int .i64 0) := (blk_cell BK172.out 0).trans rfl; have hcz21_1 : w18.cell? ⟨gb172, 1, none⟩ = some (.int .i64 0) := (blk_cell BK172.out 1).trans rfl; have hcz21_2 : w18.cell? ⟨gb172, 2, none⟩ = some (.int .i64 0) := (blk_cell BK172.out 2).trans rfl; have hcz21_3 : w18.cell? ⟨gb172, 3, none⟩ = some (.int .i64 0) := (blk_cell BK172.out 3).trans rfl; have hcz21_4 : w18.cell? ⟨gb172, 4, none⟩ = some (.int .i64 0) := (blk_cell BK172.out 4).trans rfl; have hfz21_0 := blk_frozen BK172.out 0; have hfz21_1 := blk_frozen BK172.out 1; have hfz21_2 := blk_frozen BK172.out 2; have hfz21_3 := blk_frozen BK172.out 3; have hfz21_4 := blk_frozen BK172.out 4) | ((with_reducible refine gate_callee (f := 18) rfl ?_); refine goesL_ (some 32) rfl rfl Try.func18 (by kernel_rfl) rfl #[.string (⟨#[48, 49, 50, 51, 52, 53, 54, 55, 56, 57, 48, 49, 50, 51, 52, 53, 54, 55, 56, 57, 48, 49, 50, 51, 52, 53, 54, 55, 56, 57, 48, 120]⟩ : ByteArray)] rfl (by (try simp only [List.map_toArray, List.map_cons, List.map_nil]); first | done | rfl | (simp only [List.length_drop, List.length_take]; rfl)) ?_; (with_reducible refine (rec_Cut.calls k (⟨#[48, 49, 50, 51, 52, 53, 54, 55, 56, 57, 48, 49, 50, 51, 52, 53, 54, 55, 56, 57, 48, 49, 50, 51, 52, 53, 54, 55, 56, 57, 48, 120]⟩ : ByteArray) t173 _ A5.out).mono ?_); rintro e w22 ⟨v174, rfl, ho0, hb⟩; refine ⟨_, rfl, ?_⟩; have n0_ := Aside0.mk (Kd.R_lower ho0 (below_size (by repeat (first | (with_reducible first | exact HB.out | apply below_alloc | apply pw_below_drewN | apply below_drew1 | refine below_set ?_ GE156.out | refine below_set ?_ GE165.out | refine below_set ?_ GE172.out) | exact HB.out)))); have n1_ := Aside0.mk (blk_below (g := gb156) (o := .cells #[.int .i64 t150, .int .i64 t151, .int .i64 t152, .int .i64 t153, .int .i64 t154] 26 (0, 0)) (by (with_reducible repeat (first | refine blk_drewN ?_ _ | refine blk_drew ?_ | refine blk_alloc ?_ _)); refine blk_far ?_ NB156_172.out _; (with_reducible repeat (first | refine blk_drewN ?_ _ | refine blk_drew ?_ | refine blk_alloc ?_ _)); refine blk_far ?_ NB156_172.out _; (with_reducible repeat (first | refine blk_drewN ?_ _ | refine blk_drew ?_ | refine blk_alloc ?_ _)); refine blk_far ?_ NB156_172.out _; (with_reducible repeat (first | refine blk_drewN ?_ _ | refine blk_drew ?_ | refine blk_alloc ?_ _)); refine blk_far ?_ NB156_172.out _; (with_reducible repeat (first | refine blk_drewN ?_ _ | refine blk_drew ?_ | refine blk_alloc ?_ _)); refine blk_far ?_ NB156_172.out _; (with_reducible repeat (first | refine blk_drewN ?_ _ | refine blk_drew ?_ | refine blk_alloc ?_ _)); exact BK156.out) hb); have n2_ := Aside0.mk (blk_below (g := gb165) (o := .cells #[.int .i64 t159, .int .i64 t160, .int .i64 t161, .int .i64 t162, .int .i64 t163] 26 (0, 0)) (by (with_reducible repeat (first | refine blk_drewN ?_ _ | refine blk_drew ?_ | refine blk_alloc ?_ _)); refine blk_far ?_ NB165_172.out _; (with_reducible repeat (first | refine blk_drewN ?_ _ | refine blk_drew ?_ | refine blk_alloc ?_ _)); refine blk_far ?_ NB165_172.out _; (with_reducible repeat (first | refine blk_drewN ?_ _ | refine blk_drew ?_ | refine blk_alloc ?_ _)); refine blk_far ?_ NB165_172.out _; (with_reducible repeat (first | refine blk_drewN ?_ _ | refine blk_drew ?_ | refine blk_alloc ?_ _)); refine blk_far ?_ NB165_172.out _; (with_reducible repeat (first | refine blk_drewN ?_ _ | refine blk_drew ?_ | refine blk_alloc ?_ _)); refine blk_far ?_ NB165_172.out _; (with_reducible repeat (first | refine blk_drewN ?_ _ | refine blk_drew ?_ | refine blk_alloc ?_ _)); exact BK165.out) hb); have n3_ := Aside0.mk (blk_below (g := gb172) (o := .cells #[.int .i64 t166, .int .i64 t167, .int .i64 t168, .int .i64 t169, .int .i64 t170] 26 (0, 0)) (by (with_reducible repeat (first | refine blk_drewN ?_ _ | refine blk_drew ?_ | refine blk_alloc ?_ _)); refine blk_put (cs := #[.int .i64 t166, .int .i64 t167, .int .i64 t168, .int .i64 t169, .int .i64 0]) ?_ 4 _ rfl; (with_reducible repeat (first | refine blk_drewN ?_ _ | refine blk_drew ?_ | refine blk_alloc ?_ _)); refine blk_put (cs := #[.int .i64 t166, .int .i64 t167, .int .i64 t168, .int .i64 0, .int .i64 0]) ?_ 3 _ rfl; (with_reducible repeat (first | refine blk_drewN ?_ _ | refine blk_drew ?_ | refine blk_alloc ?_ _)); refine blk_put (cs := #[.int .i64 t166, .int .i64 t167, .int .i64 0, .int .i64 0, .int .i64 0]) ?_ 2 _ rfl; (with_reducible repeat (first | refine blk_drewN ?_ _ | refine blk_drew ?_ | refine blk_alloc ?_ _)); refine blk_put (cs := #[.int .i64 t166, .int .i64 0, .int .i64 0, .int .i64 0, .int .i64 0]) ?_ 1 _ rfl; (with_reducible repeat (first | refine blk_drewN ?_ _ | refine blk_drew ?_ | refine blk_alloc ?_ _)); refine blk_put (cs := #[.int .i64 0, .int .i64 0, .int .i64 0, .int .i64 0, .int .i64 0]) ?_ 0 _ rfl; (with_reducible repeat (first | refine blk_drewN ?_ _ | refine blk_drew ?_ | refine blk_alloc ?_ _)); exact BK172.out) hb); have n4_ := Aside0.mk (below_step (by repeat (first | (with_reducible first | exact HB.out | apply below_alloc | apply pw_below_drewN | apply below_drew1 | refine below_set ?_ GE156.out | refine below_set ?_ GE165.out | refine below_set ?_ GE172.out) | exact HB.out)) hb); clear BK156; clear BK165; clear BK172; clear HB; have HO175 := n0_; have BK156 := n1_; have BK165 := n2_; have BK172 := n3_; have HB := n4_; clear n0_ n1_ n2_ n3_ n4_; (try clear hb); (try clear hb2); (try clear hk); (try clear hi); (try clear ho0); obtain ⟨Ao23, co23, eo23⟩ := Kd.R_slice HO175.out; subst eo23) | ((with_reducible refine gate_callee (f := 15) rfl ?_); refine goesL_ (some 35) rfl rfl Try.func15 (by kernel_rfl) rfl #[.slice Ao23 t173.length co23, .int .i64 32] rfl (by (try simp only [List.map_toArray, List.map_cons, List.map_nil]); first | done | rfl | (simp only [List.length_drop, List.length_take]; rfl)) ?_; (with_reducible refine (rec_Join.calls k _ _ t173 32 t176 t177 _ ?side1 ?side2 A6.out).mono ?_); (case side1 => repeat (first | exact (Kd.R_reads' HO175.out).2.2 | (with_reducible refine Kd.C_alloc ?_ _) | (with_reducible refine Kd.C_drewN ?_ _) | (with_reducible refine Kd.C_drew ?_))); (case side2 => exact (Kd.R_reads' HO175.out).2.1); rintro e w24 ⟨rfl, hb⟩; refine ⟨_, rfl, ?_⟩; have n0_ := Aside0.mk (Kd.R_below (by (with_reducible repeat (first | apply Kd.R_alloc | apply Kd.R_drewN | apply Kd.R_drew)); exact HO175.out) hb); have n1_ := Aside0.mk (blk_below (g := gb156) (o := .cells #[.int .i64 t150, .int .i64 t151, .int .i64 t152, .int .i64 t153, .int .i64 t154] 26 (0, 0)) (by (with_reducible repeat (first | refine blk_drewN ?_ _ | refine blk_drew ?_ | refine blk_alloc ?_ _)); exact BK156.out) hb); have n2_ := Aside0.mk (blk_below (g := gb165) (o := .cells #[.int .i64 t159, .int .i64 t160, .int .i64 t161, .int .i64 t162, .int .i64 t163] 26 (0, 0)) (by (with_reducible repeat (first | refine blk_drewN ?_ _ | refine blk_drew ?_ | refine blk_alloc ?_ _)); exact BK165.out) hb); have n3_ := Aside0.mk (blk_below (g := gb172) (o := .cells #[.int .i64 t166, .int .i64 t167, .int .i64 t168, .int .i64 t169, .int .i64 t170] 26 (0, 0)) (by (with_reducible repeat (first | refine blk_drewN ?_ _ | refine blk_drew ?_ | refine blk_alloc ?_ _)); exact BK172.out) hb); have n4_ := Aside0.mk (below_step (by repeat (first | (with_reducible first | exact HB.out | apply below_alloc | apply pw_below_drewN | apply below_drew1 | refine below_set ?_ GE156.out | refine below_set ?_ GE165.out | refine below_set ?_ GE172.out) | exact HB.out)) hb); clear HO175; clear BK156; clear BK165; clear BK172; clear HB; have HO175 := n0_; have BK156 := n1_; have BK165 := n2_; have BK172 := n3_; have HB := n4_; clear n0_ n1_ n2_ n3_ n4_; (try clear hb); (try clear hb2); (try clear hk); (try clear hi)) | ((with_reducible refine gate_callee (f := 15) rfl ?_); refine goesL_ (some 40) rfl rfl Try.func15 (by kernel_rfl) rfl #[.slice Ao23 t173.length co23, .int .i64 31] rfl (by (try simp only [List.map_toArray, List.map_cons, List.map_nil]); first | done | rfl | (simp only [List.length_drop, List.length_take]; rfl)) ?_; (with_reducible refine (rec_Join.calls k _ _ t173 31 t178 t179 _ ?side1 ?side2 A7.out).mono ?_); (case side1 => repeat (first | exact (Kd.R_reads' HO175.out).2.2 | (with_reducible refine Kd.C_alloc ?_ _) | (with_reducible refine Kd.C_drewN ?_ _) | (with_reducible refine Kd.C_drew ?_))); (case side2 => exact (Kd.R_reads' HO175.out).2.1); rintro e w25 ⟨rfl, hb⟩; refine ⟨_, rfl, ?_⟩; have n0_ := Aside0.mk (Kd.R_below (by (with_reducible repeat (first | apply Kd.R_alloc | apply Kd.R_drewN | apply Kd.R_drew)); exact HO175.out) hb); have n1_ := Aside0.mk (blk_below (g := gb156) (o := .cells #[.int .i64 t150, .int .i64 t151, .int .i64 t152, .int .i64 t153, .int .i64 t154] 26 (0, 0)) (by (with_reducible repeat (first | refine blk_drewN ?_ _ | refine blk_drew ?_ | refine blk_alloc ?_ _)); exact BK156.out) hb); have n2_ := Aside0.mk (blk_below (g := gb165) (o := .cells #[.int .i64 t159, .int .i64 t160, .int .i64 t161, .int .i64 t162, .int .i64 t163] 26 (0, 0)) (by (with_reducible repeat (first | refine blk_drewN ?_ _ | refine blk_drew ?_ | refine blk_alloc ?_ _)); exact BK165.out) hb); have n3_ := Aside0.mk (blk_below (g := gb172) (o := .cells #[.int .i64 t166, .int .i64 t167, .int .i64 t168, .int .i64 t169, .int .i64 t170] 26 (0, 0)) (by (with_reducible repeat (first | refine blk_drewN ?_ _ | refine blk_drew ?_ | refine blk_alloc ?_ _)); exact BK172.out) hb); have n4_ := Aside0.mk (below_step (by repeat (first | (with_reducible first | exact HB.out | apply below_alloc | apply pw_below_drewN | apply below_drew1 | refine below_set ?_ GE156.out | refine below_set ?_ GE165.out | refine below_set ?_ GE172.out) | exact HB.out)) hb); clear HO175; clear BK156; clear BK165; clear BK172; clear HB; have HO175 := n0_; have BK156 := n1_; have BK165 := n2_; have BK172 := n3_; have HB := n4_; clear n0_ n1_ n2_ n3_ n4_; (try clear hb); (try clear hb2); (try clear hk); (try clear hi)))
  (try simp only [Act.put, List.setIfInBounds_toArray, List.set_cons_zero, List.set_cons_succ])
  go_cut [50] (fun v50 wc => ∃ (kq : Nat) (x50_7 : Bool), v50 = .bool x50_7 ∧ Aside0 (armadalaw03_live.j0 kq t155 t157 t158 t164 t171 t173 t176 t177 t179 x50_7 t150 t151 t152 t153 t154 t159 t160 t161 t162 t163 = some true) ∧ Aside0 (kq ≤ k) ∧ Aside0 (Kd.R Kd.string 9 wc w.heap.size (fun _ => True) (.slice Ao23 t173.length co23) t173) ∧ Aside0 (wc.heap[gb156]? = some (.cells #[.int .i64 t150, .int .i64 t151, .int .i64 t152, .int .i64 t153, .int .i64 t154] 26 (0, 0))) ∧ Aside0 (wc.heap[gb165]? = some (.cells #[.int .i64 t159, .int .i64 t160, .int .i64 t161, .int .i64 t162, .int .i64 t163] 26 (0, 0))) ∧ Aside0 (wc.heap[gb172]? = some (.cells #[.int .i64 t166, .int .i64 t167, .int .i64 t168, .int .i64 t169, .int .i64 t170] 26 (0, 0))) ∧ Aside0 (Below w.heap.size w wc))
  case first =>
    have H := HC8.out
    clear HC8
    by_cases c26 : (t157.size : Int) = 32
    · rw [if_pos c26] at H
      have c26b0 : ((t157.size : Int) == 32) = true := beq_iff_eq.mpr c26
      have c26b1 : ((t157.size : Int) != 32) = false := bne_eq_false_iff_eq.mpr c26
      clear c26
      (first | rw [c26b0] | (simp only [i64_w, i32_w]; rw [c26b0]) | skip)
      have H' := Aside0.mk H
      clear H
      go_wp2
      go_meet
      case rel => exact ⟨_, (((t173.length : Int) != 2)), (by first | rfl | (simp; done) | (simp [*]; done)), H', ⟨by first | omega | exact Nat.le_refl _⟩, ⟨by (with_reducible repeat (first | apply Kd.R_alloc | apply Kd.R_drewN | apply Kd.R_drew)); exact HO175.out⟩, ⟨by (with_reducible repeat (first | refine blk_drewN ?_ _ | refine blk_drew ?_ | refine blk_alloc ?_ _)); exact BK156.out⟩, ⟨by (with_reducible repeat (first | refine blk_drewN ?_ _ | refine blk_drew ?_ | refine blk_alloc ?_ _)); exact BK165.out⟩, ⟨by (with_reducible repeat (first | refine blk_drewN ?_ _ | refine blk_drew ?_ | refine blk_alloc ?_ _)); exact BK172.out⟩, ⟨by repeat (first | (with_reducible first | exact HB.out | apply below_alloc | apply pw_below_drewN | apply below_drew1 | refine below_set ?_ GE156.out | refine below_set ?_ GE165.out | refine below_set ?_ GE172.out) | exact HB.out)⟩⟩
    · rw [if_neg c26] at H
      have c26b0 : ((t157.size : Int) == 32) = false := beq_eq_false_iff_ne.mpr c26
      have c26b1 : ((t157.size : Int) != 32) = true := bne_iff_ne.mpr c26
      (first | rw [c26b0] | (simp only [i64_w, i32_w]; rw [c26b0]) | skip)
      have H' := Aside0.mk H
      clear H
      go_wp2
      go_meet
      case rel => exact ⟨_, (true), (by first | rfl | (simp; done) | (simp [*]; done)), H', ⟨by first | omega | exact Nat.le_refl _⟩, ⟨by (with_reducible repeat (first | apply Kd.R_alloc | apply Kd.R_drewN | apply Kd.R_drew)); exact HO175.out⟩, ⟨by (with_reducible repeat (first | refine blk_drewN ?_ _ | refine blk_drew ?_ | refine blk_alloc ?_ _)); exact BK156.out⟩, ⟨by (with_reducible repeat (first | refine blk_drewN ?_ _ | refine blk_drew ?_ | refine blk_alloc ?_ _)); exact BK165.out⟩, ⟨by (with_reducible repeat (first | refine blk_drewN ?_ _ | refine blk_drew ?_ | refine blk_alloc ?_ _)); exact BK172.out⟩, ⟨by repeat (first | (with_reducible first | exact HB.out | apply below_alloc | apply pw_below_drewN | apply below_drew1 | refine below_set ?_ GE156.out | refine below_set ?_ GE165.out | refine below_set ?_ GE172.out) | exact HB.out)⟩⟩
  case rest =>
    clear HC8
    try clear c1
    try clear c2
    try clear p2
    try clear c8
    try clear c9
    try clear c11
    try clear c13
    try clear c15
    try clear c18
    try clear c19
    try clear c20
    try clear c26
    try clear c26b0
    try clear c26b1
    try clear hcz11_0
    try clear hcz11_1
    try clear hcz11_2
    try clear hcz11_3
    try clear hcz11_4
    try clear hcz16_0
    try clear hcz16_1
    try clear hcz16_2
    try clear hcz16_3
    try clear hcz16_4
    try clear hcz21_0
    try clear hcz21_1
    try clear hcz21_2
    try clear hcz21_3
    try clear hcz21_4
    try clear hfz11_0
    try clear hfz11_1
    try clear hfz11_2
    try clear hfz11_3
    try clear hfz11_4
    try clear hfz16_0
    try clear hfz16_1
    try clear hfz16_2
    try clear hfz16_3
    try clear hfz16_4
    try clear hfz21_0
    try clear hfz21_1
    try clear hfz21_2
    try clear hfz21_3
    try clear hfz21_4
    obtain ⟨kq, x50_7, rfl, HA, HJ7, HO_9, BK156, BK165, BK172, HB⟩ := hcut
    cases kq with
    | zero => exact absurd HA.out (by simp [armadalaw03_live.j0])
    | succ kj7 =>
      have H := HA.out
      clear HA
      simp only [armadalaw03_live.j0] at H
      by_cases c27 : x50_7 = true
      · subst c27
        have H1 : (some false) = some true := by rw [if_pos rfl] at H; exact H
        clear H
        have H := H1
        clear H1
        exact absurd H (by simp)
      · replace c27 := Bool.eq_false_iff.mpr c27
        subst c27
        have H1 : (if t155 = true then (if t158 = true then (if t164 = true then (if (t159 == t150 && (t160 == t151 && (t161 == t152 && (t162 == t153 && (t163 == t154))))) = true then (if 0 ≤ 14 then (if 14 ≤ (t157.size : Int) then (if (t157.extract 0 14).toList = ([72, 2, 0, 0, 0, 3, 0, 0, 0, 4, 0, 0, 0, 2] : List UInt8) then (if t171 = true then (some false) else (if 1 < (t173.length : Int) then (if 0 ≤ 3 then (if 3 ≤ ((rdOf ByteArray.empty t173 1).size : Int) then (if ((rdOf ByteArray.empty t173 1).extract 0 3).toList = ([68, 120, 0] : List UInt8) then (if t176.toList = ([48, 49, 50, 51, 52, 53, 54, 55, 56, 57, 48, 49, 50, 51, 52, 53, 54, 55, 56, 57, 48, 49, 50, 51, 52, 53, 54, 55, 56, 57, 48, 120] : List UInt8) then (if t177 = true then (if t179 = true then (some false) else ((rec_Count.f 31).bind fun t181 => (if t181 = 1 then ((rec_Count.f 32).bind fun t182 => (if t182 = 2 then ((rec_Count.f 0).bind fun t183 => (if t183 = 0 then ((rec_Count.f (-1)).bind fun t184 => (if t184 = (-1) then ((rec_Count.f 4097).bind fun t185 => (some (t185 == (-1)))) else (some false))) else (some false))) else (some false))) else (some false)))) else (some false)) else (some false)) else (some false)) else (none)) else (none)) else (none))) else (some false)) else (none)) else (none)) else (some false)) else (some false)) else (some false)) else (some false)) = some true := by rw [if_neg (show ¬ (false = true) by decide)] at H; exact H
        clear H
        have H := H1
        clear H1
        by_cases c28 : t155 = true
        · subst c28
          have H1 : (if t158 = true then (if t164 = true then (if (t159 == t150 && (t160 == t151 && (t161 == t152 && (t162 == t153 && (t163 == t154))))) = true then (if 0 ≤ 14 then (if 14 ≤ (t157.size : Int) then (if (t157.extract 0 14).toList = ([72, 2, 0, 0, 0, 3, 0, 0, 0, 4, 0, 0, 0, 2] : List UInt8) then (if t171 = true then (some false) else (if 1 < (t173.length : Int) then (if 0 ≤ 3 then (if 3 ≤ ((rdOf ByteArray.empty t173 1).size : Int) then (if ((rdOf ByteArray.empty t173 1).extract 0 3).toList = ([68, 120, 0] : List UInt8) then (if t176.toList = ([48, 49, 50, 51, 52, 53, 54, 55, 56, 57, 48, 49, 50, 51, 52, 53, 54, 55, 56, 57, 48, 49, 50, 51, 52, 53, 54, 55, 56, 57, 48, 120] : List UInt8) then (if t177 = true then (if t179 = true then (some false) else ((rec_Count.f 31).bind fun t181 => (if t181 = 1 then ((rec_Count.f 32).bind fun t182 => (if t182 = 2 then ((rec_Count.f 0).bind fun t183 => (if t183 = 0 then ((rec_Count.f (-1)).bind fun t184 => (if t184 = (-1) then ((rec_Count.f 4097).bind fun t185 => (some (t185 == (-1)))) else (some false))) else (some false))) else (some false))) else (some false)))) else (some false)) else (some false)) else (some false)) else (none)) else (none)) else (none))) else (some false)) else (none)) else (none)) else (some false)) else (some false)) else (some false)) = some true := by rw [if_pos rfl] at H; exact H
          clear H
          have H := H1
          clear H1
          by_cases c29 : t158 = true
          · subst c29
            have H1 : (if t164 = true then (if (t159 == t150 && (t160 == t151 && (t161 == t152 && (t162 == t153 && (t163 == t154))))) = true then (if 0 ≤ 14 then (if 14 ≤ (t157.size : Int) then (if (t157.extract 0 14).toList = ([72, 2, 0, 0, 0, 3, 0, 0, 0, 4, 0, 0, 0, 2] : List UInt8) then (if t171 = true then (some false) else (if 1 < (t173.length : Int) then (if 0 ≤ 3 then (if 3 ≤ ((rdOf ByteArray.empty t173 1).size : Int) then (if ((rdOf ByteArray.empty t173 1).extract 0 3).toList = ([68, 120, 0] : List UInt8) then (if t176.toList = ([48, 49, 50, 51, 52, 53, 54, 55, 56, 57, 48, 49, 50, 51, 52, 53, 54, 55, 56, 57, 48, 49, 50, 51, 52, 53, 54, 55, 56, 57, 48, 120] : List UInt8) then (if t177 = true then (if t179 = true then (some false) else ((rec_Count.f 31).bind fun t181 => (if t181 = 1 then ((rec_Count.f 32).bind fun t182 => (if t182 = 2 then ((rec_Count.f 0).bind fun t183 => (if t183 = 0 then ((rec_Count.f (-1)).bind fun t184 => (if t184 = (-1) then ((rec_Count.f 4097).bind fun t185 => (some (t185 == (-1)))) else (some false))) else (some false))) else (some false))) else (some false)))) else (some false)) else (some false)) else (some false)) else (none)) else (none)) else (none))) else (some false)) else (none)) else (none)) else (some false)) else (some false)) = some true := by rw [if_pos rfl] at H; exact H
            clear H
            have H := H1
            clear H1
            by_cases c30 : t164 = true
            · subst c30
              have H1 : (if (t159 == t150 && (t160 == t151 && (t161 == t152 && (t162 == t153 && (t163 == t154))))) = true then (if 0 ≤ 14 then (if 14 ≤ (t157.size : Int) then (if (t157.extract 0 14).toList = ([72, 2, 0, 0, 0, 3, 0, 0, 0, 4, 0, 0, 0, 2] : List UInt8) then (if t171 = true then (some false) else (if 1 < (t173.length : Int) then (if 0 ≤ 3 then (if 3 ≤ ((rdOf ByteArray.empty t173 1).size : Int) then (if ((rdOf ByteArray.empty t173 1).extract 0 3).toList = ([68, 120, 0] : List UInt8) then (if t176.toList = ([48, 49, 50, 51, 52, 53, 54, 55, 56, 57, 48, 49, 50, 51, 52, 53, 54, 55, 56, 57, 48, 49, 50, 51, 52, 53, 54, 55, 56, 57, 48, 120] : List UInt8) then (if t177 = true then (if t179 = true then (some false) else ((rec_Count.f 31).bind fun t181 => (if t181 = 1 then ((rec_Count.f 32).bind fun t182 => (if t182 = 2 then ((rec_Count.f 0).bind fun t183 => (if t183 = 0 then ((rec_Count.f (-1)).bind fun t184 => (if t184 = (-1) then ((rec_Count.f 4097).bind fun t185 => (some (t185 == (-1)))) else (some false))) else (some false))) else (some false))) else (some false)))) else (some false)) else (some false)) else (some false)) else (none)) else (none)) else (none))) else (some false)) else (none)) else (none)) else (some false)) = some true := by rw [if_pos rfl] at H; exact H
              clear H
              have H := H1
              clear H1
              by_cases c31 : (t159 == t150 && (t160 == t151 && (t161 == t152 && (t162 == t153 && (t163 == t154))))) = true
              · rw [if_pos c31] at H
                have c31b0 : (t159 == t150 && (t160 == t151 && (t161 == t152 && (t162 == t153 && (t163 == t154))))) = true := c31
                (try (have c31b1 : decide (t159 = t150 && (t160 == t151 && (t161 == t152 && (t162 == t153 && (t163 == t154))))) = true := by simpa using c31))
                (try (have c31b2 : (t159 == t150 && (t160 == t151 && (t161 == t152 && (t162 == t153 && (t163 == t154))))) = true := by simpa using c31))
                clear c31
                by_cases c32 : 0 ≤ 14
                · rw [if_pos c32] at H
                  have c32b0 := eq_true c32
                  have c32b1 : decide (0 ≤ 14) = true := decide_eq_true c32
                  clear c32
                  by_cases c33 : 14 ≤ (t157.size : Int)
                  · rw [if_pos c33] at H
                    have c33b0 := eq_true c33
                    have c33b1 : decide (14 ≤ (t157.size : Int)) = true := decide_eq_true c33
                    clear c33
                    by_cases c34 : (t157.extract 0 14).toList = ([72, 2, 0, 0, 0, 3, 0, 0, 0, 4, 0, 0, 0, 2] : List UInt8)
                    · rw [if_pos c34] at H
                      have c34b0 : ((t157.extract 0 14).toList == ([72, 2, 0, 0, 0, 3, 0, 0, 0, 4, 0, 0, 0, 2] : List UInt8)) = true := beq_iff_eq.mpr c34
                      have c34b1 : ((t157.extract 0 14).toList != ([72, 2, 0, 0, 0, 3, 0, 0, 0, 4, 0, 0, 0, 2] : List UInt8)) = false := bne_eq_false_iff_eq.mpr c34
                      clear c34
                      by_cases c35 : t171 = true
                      · subst c35
                        have H1 : (some false) = some true := by rw [if_pos rfl] at H; exact H
                        clear H
                        have H := H1
                        clear H1
                        exact absurd H (by simp)
                      · replace c35 := Bool.eq_false_iff.mpr c35
                        subst c35
                        have H1 : (if 1 < (t173.length : Int) then (if 0 ≤ 3 then (if 3 ≤ ((rdOf ByteArray.empty t173 1).size : Int) then (if ((rdOf ByteArray.empty t173 1).extract 0 3).toList = ([68, 120, 0] : List UInt8) then (if t176.toList = ([48, 49, 50, 51, 52, 53, 54, 55, 56, 57, 48, 49, 50, 51, 52, 53, 54, 55, 56, 57, 48, 49, 50, 51, 52, 53, 54, 55, 56, 57, 48, 120] : List UInt8) then (if t177 = true then (if t179 = true then (some false) else ((rec_Count.f 31).bind fun t181 => (if t181 = 1 then ((rec_Count.f 32).bind fun t182 => (if t182 = 2 then ((rec_Count.f 0).bind fun t183 => (if t183 = 0 then ((rec_Count.f (-1)).bind fun t184 => (if t184 = (-1) then ((rec_Count.f 4097).bind fun t185 => (some (t185 == (-1)))) else (some false))) else (some false))) else (some false))) else (some false)))) else (some false)) else (some false)) else (some false)) else (none)) else (none)) else (none)) = some true := by rw [if_neg (show ¬ (false = true) by decide)] at H; exact H
                        clear H
                        have H := H1
                        clear H1
                        by_cases c36 : 1 < (t173.length : Int)
                        · rw [if_pos c36] at H
                          have c36b0 : decide (1 < (t173.length : Int)) = true := decide_eq_true c36
                          have c36b1 : decide (1 < t173.length) = true := decide_eq_true (by omega)
                          clear c36
                          by_cases c37 : 0 ≤ 3
                          · rw [if_pos c37] at H
                            have c37b0 := eq_true c37
                            have c37b1 : decide (0 ≤ 3) = true := decide_eq_true c37
                            clear c37
                            by_cases c38 : 3 ≤ ((rdOf ByteArray.empty t173 1).size : Int)
                            · rw [if_pos c38] at H
                              have c38b0 := eq_true c38
                              have c38b1 : decide (3 ≤ ((rdOf ByteArray.empty t173 1).size : Int)) = true := decide_eq_true c38
                              clear c38
                              by_cases c39 : ((rdOf ByteArray.empty t173 1).extract 0 3).toList = ([68, 120, 0] : List UInt8)
                              · rw [if_pos c39] at H
                                have c39b0 : (((rdOf ByteArray.empty t173 1).extract 0 3).toList == ([68, 120, 0] : List UInt8)) = true := beq_iff_eq.mpr c39
                                have c39b1 : (((rdOf ByteArray.empty t173 1).extract 0 3).toList != ([68, 120, 0] : List UInt8)) = false := bne_eq_false_iff_eq.mpr c39
                                clear c39
                                by_cases c40 : t176.toList = ([48, 49, 50, 51, 52, 53, 54, 55, 56, 57, 48, 49, 50, 51, 52, 53, 54, 55, 56, 57, 48, 49, 50, 51, 52, 53, 54, 55, 56, 57, 48, 120] : List UInt8)
                                · rw [if_pos c40] at H
                                  have c40b0 : (t176.toList == ([48, 49, 50, 51, 52, 53, 54, 55, 56, 57, 48, 49, 50, 51, 52, 53, 54, 55, 56, 57, 48, 49, 50, 51, 52, 53, 54, 55, 56, 57, 48, 120] : List UInt8)) = true := beq_iff_eq.mpr c40
                                  have c40b1 : (t176.toList != ([48, 49, 50, 51, 52, 53, 54, 55, 56, 57, 48, 49, 50, 51, 52, 53, 54, 55, 56, 57, 48, 49, 50, 51, 52, 53, 54, 55, 56, 57, 48, 120] : List UInt8)) = false := bne_eq_false_iff_eq.mpr c40
                                  clear c40
                                  by_cases c41 : t177 = true
                                  · subst c41
                                    have H1 : (if t179 = true then (some false) else ((rec_Count.f 31).bind fun t181 => (if t181 = 1 then ((rec_Count.f 32).bind fun t182 => (if t182 = 2 then ((rec_Count.f 0).bind fun t183 => (if t183 = 0 then ((rec_Count.f (-1)).bind fun t184 => (if t184 = (-1) then ((rec_Count.f 4097).bind fun t185 => (some (t185 == (-1)))) else (some false))) else (some false))) else (some false))) else (some false)))) = some true := by rw [if_pos rfl] at H; exact H
                                    clear H
                                    have H := H1
                                    clear H1
                                    by_cases c42 : t179 = true
                                    · subst c42
                                      have H1 : (some false) = some true := by rw [if_pos rfl] at H; exact H
                                      clear H
                                      have H := H1
                                      clear H1
                                      exact absurd H (by simp)
                                    · replace c42 := Bool.eq_false_iff.mpr c42
                                      subst c42
                                      have H1 : ((rec_Count.f 31).bind fun t181 => (if t181 = 1 then ((rec_Count.f 32).bind fun t182 => (if t182 = 2 then ((rec_Count.f 0).bind fun t183 => (if t183 = 0 then ((rec_Count.f (-1)).bind fun t184 => (if t184 = (-1) then ((rec_Count.f 4097).bind fun t185 => (some (t185 == (-1)))) else (some false))) else (some false))) else (some false))) else (some false))) = some true := by rw [if_neg (show ¬ (false = true) by decide)] at H; exact H
                                      clear H
                                      have H := H1
                                      clear H1
                                      replace H := Option.bind_eq_some_iff.mp H
                                      obtain ⟨t181, A430, H⟩ := H
                                      replace H : (if t181 = 1 then ((rec_Count.f 32).bind fun t182 => (if t182 = 2 then ((rec_Count.f 0).bind fun t183 => (if t183 = 0 then ((rec_Count.f (-1)).bind fun t184 => (if t184 = (-1) then ((rec_Count.f 4097).bind fun t185 => (some (t185 == (-1)))) else (some false))) else (some false))) else (some false))) else (some false)) = some true := H
                                      have A43 := Aside0.mk A430
                                      clear A430
                                      by_cases c44 : t181 = 1
                                      · rw [if_pos c44] at H
                                        have c44b0 : (t181 == 1) = true := beq_iff_eq.mpr c44
                                        have c44b1 : (t181 != 1) = false := bne_eq_false_iff_eq.mpr c44
                                        clear c44
                                        replace H := Option.bind_eq_some_iff.mp H
                                        obtain ⟨t182, A450, H⟩ := H
                                        replace H : (if t182 = 2 then ((rec_Count.f 0).bind fun t183 => (if t183 = 0 then ((rec_Count.f (-1)).bind fun t184 => (if t184 = (-1) then ((rec_Count.f 4097).bind fun t185 => (some (t185 == (-1)))) else (some false))) else (some false))) else (some false)) = some true := H
                                        have A45 := Aside0.mk A450
                                        clear A450
                                        by_cases c46 : t182 = 2
                                        · rw [if_pos c46] at H
                                          have c46b0 : (t182 == 2) = true := beq_iff_eq.mpr c46
                                          have c46b1 : (t182 != 2) = false := bne_eq_false_iff_eq.mpr c46
                                          clear c46
                                          replace H := Option.bind_eq_some_iff.mp H
                                          obtain ⟨t183, A470, H⟩ := H
                                          replace H : (if t183 = 0 then ((rec_Count.f (-1)).bind fun t184 => (if t184 = (-1) then ((rec_Count.f 4097).bind fun t185 => (some (t185 == (-1)))) else (some false))) else (some false)) = some true := H
                                          have A47 := Aside0.mk A470
                                          clear A470
                                          by_cases c48 : t183 = 0
                                          · rw [if_pos c48] at H
                                            have c48b0 : (t183 == 0) = true := beq_iff_eq.mpr c48
                                            have c48b1 : (t183 != 0) = false := bne_eq_false_iff_eq.mpr c48
                                            clear c48
                                            replace H := Option.bind_eq_some_iff.mp H
                                            obtain ⟨t184, A490, H⟩ := H
                                            replace H : (if t184 = (-1) then ((rec_Count.f 4097).bind fun t185 => (some (t185 == (-1)))) else (some false)) = some true := H
                                            have A49 := Aside0.mk A490
                                            clear A490
                                            by_cases c50 : t184 = (-1)
                                            · rw [if_pos c50] at H
                                              have c50b0 : (t184 == (-1)) = true := beq_iff_eq.mpr c50
                                              have c50b1 : (t184 != (-1)) = false := bne_eq_false_iff_eq.mpr c50
                                              clear c50
                                              replace H := Option.bind_eq_some_iff.mp H
                                              obtain ⟨t185, A510, H⟩ := H
                                              replace H : (some (t185 == (-1))) = some true := H
                                              have A51 := Aside0.mk A510
                                              clear A510
                                              have hret_ := Option.some.inj H
                                              clear H
                                              have hnb52 := NB165_156.out
                                              have hnc52 := NB156_165.out
                                              have hnb53 := NB165_172.out
                                              have hnc53 := NB172_165.out
                                              have hcz54_0 : wc.cell? ⟨gb165, 0, none⟩ = some (.int .i64 t159) := (blk_cell BK165.out 0).trans rfl
                                              have hcz54_1 : wc.cell? ⟨gb165, 1, none⟩ = some (.int .i64 t160) := (blk_cell BK165.out 1).trans rfl
                                              have hcz54_2 : wc.cell? ⟨gb165, 2, none⟩ = some (.int .i64 t161) := (blk_cell BK165.out 2).trans rfl
                                              have hcz54_3 : wc.cell? ⟨gb165, 3, none⟩ = some (.int .i64 t162) := (blk_cell BK165.out 3).trans rfl
                                              have hcz54_4 : wc.cell? ⟨gb165, 4, none⟩ = some (.int .i64 t163) := (blk_cell BK165.out 4).trans rfl
                                              have hfz54_0 := blk_frozen BK165.out 0
                                              have hfz54_1 := blk_frozen BK165.out 1
                                              have hfz54_2 := blk_frozen BK165.out 2
                                              have hfz54_3 := blk_frozen BK165.out 3
                                              have hfz54_4 := blk_frozen BK165.out 4
                                              have hnb55 := NB156_172.out
                                              have hnc55 := NB172_156.out
                                              have hcz56_0 : wc.cell? ⟨gb156, 0, none⟩ = some (.int .i64 t150) := (blk_cell BK156.out 0).trans rfl
                                              have hcz56_1 : wc.cell? ⟨gb156, 1, none⟩ = some (.int .i64 t151) := (blk_cell BK156.out 1).trans rfl
                                              have hcz56_2 : wc.cell? ⟨gb156, 2, none⟩ = some (.int .i64 t152) := (blk_cell BK156.out 2).trans rfl
                                              have hcz56_3 : wc.cell? ⟨gb156, 3, none⟩ = some (.int .i64 t153) := (blk_cell BK156.out 3).trans rfl
                                              have hcz56_4 : wc.cell? ⟨gb156, 4, none⟩ = some (.int .i64 t154) := (blk_cell BK156.out 4).trans rfl
                                              have hfz56_0 := blk_frozen BK156.out 0
                                              have hfz56_1 := blk_frozen BK156.out 1
                                              have hfz56_2 := blk_frozen BK156.out 2
                                              have hfz56_3 := blk_frozen BK156.out 3
                                              have hfz56_4 := blk_frozen BK156.out 4
                                              have p180 : 0 ≤ (1 : Int) := (by omega)
                                              have q180 : 1 < (t173.length : Int) := of_decide_eq_true (by first | (with_reducible assumption) | assumption)
                                              obtain ⟨ad180, e180, hx180_0⟩ := Kd.at_string (Kd.R_reads' HO_9.out).2.2 1 p180 q180
                                              cases e180
                                              (try simp only [show (1 : Int).toNat = 1 from rfl, Nat.reduceMul, Nat.reduceEqDiff, Go.Addr.add, ↓reduceIte] at hx180_0)
                                              have qi180 : (1 < t173.length) = True := eq_true (by omega)
                                              (try rw [show ((1 : Int)).toNat = 1 from rfl] at hx180_0)
                                              replace p180 := eq_true p180
                                              replace q180 := eq_true q180
                                              go_wp2_with (first | (go_at_call 20; (with_reducible refine (rec_Count.calls 31 t181 _ A43.out).mono ?_); rintro e w' ⟨rfl, ⟨nd, rfl⟩⟩) | (go_at_call 20; (with_reducible refine (rec_Count.calls 32 t182 _ A45.out).mono ?_); rintro e w' ⟨rfl, ⟨nd, rfl⟩⟩) | (go_at_call 20; (with_reducible refine (rec_Count.calls 0 t183 _ A47.out).mono ?_); rintro e w' ⟨rfl, ⟨nd, rfl⟩⟩) | (go_at_call 20; (with_reducible refine (rec_Count.calls (-1) t184 _ A49.out).mono ?_); rintro e w' ⟨rfl, ⟨nd, rfl⟩⟩) | (go_at_call 20; (with_reducible refine (rec_Count.calls 4097 t185 _ A51.out).mono ?_); rintro e w' ⟨rfl, ⟨nd, rfl⟩⟩))
                                              go_ret
                                              exact ⟨by first | rfl | (simp [errW_none, errW_some] <;> rfl) | (simp [*, errW_none, errW_some] <;> rfl), by repeat (first | (with_reducible first | exact HB.out | apply below_alloc | apply pw_below_drewN | apply below_drew1 | refine below_set ?_ GE156.out | refine below_set ?_ GE165.out | refine below_set ?_ GE172.out) | exact HB.out)⟩
                                            · rw [if_neg c50] at H
                                              have c50b0 : (t184 == (-1)) = false := beq_eq_false_iff_ne.mpr c50
                                              have c50b1 : (t184 != (-1)) = true := bne_iff_ne.mpr c50
                                              exact absurd H (by simp)
                                          · rw [if_neg c48] at H
                                            have c48b0 : (t183 == 0) = false := beq_eq_false_iff_ne.mpr c48
                                            have c48b1 : (t183 != 0) = true := bne_iff_ne.mpr c48
                                            exact absurd H (by simp)
                                        · rw [if_neg c46] at H
                                          have c46b0 : (t182 == 2) = false := beq_eq_false_iff_ne.mpr c46
                                          have c46b1 : (t182 != 2) = true := bne_iff_ne.mpr c46
                                          exact absurd H (by simp)
                                      · rw [if_neg c44] at H
                                        have c44b0 : (t181 == 1) = false := beq_eq_false_iff_ne.mpr c44
                                        have c44b1 : (t181 != 1) = true := bne_iff_ne.mpr c44
                                        exact absurd H (by simp)
                                  · replace c41 := Bool.eq_false_iff.mpr c41
                                    subst c41
                                    have H1 : (some false) = some true := by rw [if_neg (show ¬ (false = true) by decide)] at H; exact H
                                    clear H
                                    have H := H1
                                    clear H1
                                    exact absurd H (by simp)
                                · rw [if_neg c40] at H
                                  have c40b0 : (t176.toList == ([48, 49, 50, 51, 52, 53, 54, 55, 56, 57, 48, 49, 50, 51, 52, 53, 54, 55, 56, 57, 48, 49, 50, 51, 52, 53, 54, 55, 56, 57, 48, 120] : List UInt8)) = false := beq_eq_false_iff_ne.mpr c40
                                  have c40b1 : (t176.toList != ([48, 49, 50, 51, 52, 53, 54, 55, 56, 57, 48, 49, 50, 51, 52, 53, 54, 55, 56, 57, 48, 49, 50, 51, 52, 53, 54, 55, 56, 57, 48, 120] : List UInt8)) = true := bne_iff_ne.mpr c40
                                  exact absurd H (by simp)
                              · rw [if_neg c39] at H
                                have c39b0 : (((rdOf ByteArray.empty t173 1).extract 0 3).toList == ([68, 120, 0] : List UInt8)) = false := beq_eq_false_iff_ne.mpr c39
                                have c39b1 : (((rdOf ByteArray.empty t173 1).extract 0 3).toList != ([68, 120, 0] : List UInt8)) = true := bne_iff_ne.mpr c39
                                exact absurd H (by simp)
                            · rw [if_neg c38] at H
                              exact absurd H (by simp)
                          · rw [if_neg c37] at H
                            exact absurd H (by simp)
                        · rw [if_neg c36] at H
                          exact absurd H (by simp)
                    · rw [if_neg c34] at H
                      have c34b0 : ((t157.extract 0 14).toList == ([72, 2, 0, 0, 0, 3, 0, 0, 0, 4, 0, 0, 0, 2] : List UInt8)) = false := beq_eq_false_iff_ne.mpr c34
                      have c34b1 : ((t157.extract 0 14).toList != ([72, 2, 0, 0, 0, 3, 0, 0, 0, 4, 0, 0, 0, 2] : List UInt8)) = true := bne_iff_ne.mpr c34
                      exact absurd H (by simp)
                  · rw [if_neg c33] at H
                    exact absurd H (by simp)
                · rw [if_neg c32] at H
                  exact absurd H (by simp)
              · rw [if_neg c31] at H
                have c31b0 : (t159 == t150 && (t160 == t151 && (t161 == t152 && (t162 == t153 && (t163 == t154))))) = false := by simpa using c31
                (try (have c31b1 : decide (t159 = t150 && (t160 == t151 && (t161 == t152 && (t162 == t153 && (t163 == t154))))) = false := by simpa using c31))
                (try (have c31b2 : (t159 == t150 && (t160 == t151 && (t161 == t152 && (t162 == t153 && (t163 == t154))))) = false := by simpa using c31))
                (try (have c31b3 : ¬ (t159 = t150 && (t160 == t151 && (t161 == t152 && (t162 == t153 && (t163 == t154))))) := by simpa using c31))
                clear c31
                exact absurd H (by simp)
            · replace c30 := Bool.eq_false_iff.mpr c30
              subst c30
              have H1 : (some false) = some true := by rw [if_neg (show ¬ (false = true) by decide)] at H; exact H
              clear H
              have H := H1
              clear H1
              exact absurd H (by simp)
          · replace c29 := Bool.eq_false_iff.mpr c29
            subst c29
            have H1 : (some false) = some true := by rw [if_neg (show ¬ (false = true) by decide)] at H; exact H
            clear H
            have H := H1
            clear H1
            exact absurd H (by simp)
        · replace c28 := Bool.eq_false_iff.mpr c28
          subst c28
          have H1 : (some false) = some true := by rw [if_neg (show ¬ (false = true) by decide)] at H; exact H
          clear H
          have H := H1
          clear H1
          exact absurd H (by simp)
mutual
def armadalaw03_RecBack.j0 : Nat → List ByteArray → Bool → Int → Int → Int → Int → Int → Option (Bool)
  | 0, _, _, _, _, _, _, _ => none
  | k + 1, x7, x81, x281000, x281001, x281002, x281003, x281004 => if x81 = true then (some false) else (armadalaw03_RecBack.l0 k x7 0 x281000 x281001 x281002 x281003 x281004)
def armadalaw03_RecBack.l0 : Nat → List ByteArray → Int → Int → Int → Int → Int → Int → Option (Bool)
  | 0, _, _, _, _, _, _, _ => none
  | k + 1, x7, x12, x281000, x281001, x281002, x281003, x281004 => if x12 < (x7.length : Int) then (if 0 ≤ x12 then ((rec_Read.f k (rdOf ByteArray.empty x7 x12)).bind fun bt293 => (if bt293.2.2.2.2.2 = true then (some false) else (if ((rdOf ByteArray.empty x7 x12).size : Int) = 32 then (armadalaw03_RecBack.l0 k x7 (wrap64 (x12 + 1)) x281000 x281001 x281002 x281003 x281004) else (some false)))) else (none)) else ((rec_Head_Text.f k x281000 x281001 x281002 x281003 x281004).bind fun bt301 => (if bt301.2 = true then ((rec_Read.f k bt301.1).bind fun bt303 => ((rec_Join.f k (([bt301.1] : List ByteArray)) 5).bind fun bt313 => (if bt303.2.2.2.2.2 = true then (if (bt303.1 == x281000 && (bt303.2.1 == x281001 && (bt303.2.2.1 == x281002 && (bt303.2.2.2.1 == x281003 && (bt303.2.2.2.2.1 == x281004))))) = true then (if bt313.2 = true then (some false) else ((armadalaw03_live.f k).bind fun t315 => (some t315))) else (some false)) else (some false)))) else (if bt301.1.toList = ([] : List UInt8) then ((armadalaw03_live.f k).bind fun t316 => (some t316)) else (some false))))
end
def armadalaw03_RecBack.f (k : Nat) (a0_0 : Int) (a0_1 : Int) (a0_2 : Int) (a0_3 : Int) (a0_4 : Int) (a1 : ByteArray) (a2 : Int) : Option (Bool) := if (a1.size : Int) > 70000 then ((armadalaw03_live.f k).bind fun t281 => (some t281)) else ((rec_Cut.f k a1).bind fun t282 => (if (a1.size : Int) > 4096 then (if (t282.length : Int) = 0 then ((armadalaw03_live.f k).bind fun t285 => (some t285)) else (some false)) else ((rec_Count.f (a1.size : Int)).bind fun t286 => (if (t282.length : Int) = t286 then ((rec_Join.f k t282 (a1.size : Int)).bind fun bt287 => ((rec_Join.f k t282 a2).bind fun bt289 => (if bt287.2 = true then (if bt287.1.toList = a1.toList then (if bt289.2 = true then (if a2 < 0 then (armadalaw03_RecBack.j0 k t282 true a0_0 a0_1 a0_2 a0_3 a0_4) else (if (bt289.1.size : Int) = a2 then ((rec_Count.f a2).bind fun t291 => (armadalaw03_RecBack.j0 k t282 (t291 != (t282.length : Int)) a0_0 a0_1 a0_2 a0_3 a0_4)) else (armadalaw03_RecBack.j0 k t282 true a0_0 a0_1 a0_2 a0_3 a0_4))) else (armadalaw03_RecBack.j0 k t282 false a0_0 a0_1 a0_2 a0_3 a0_4)) else (armadalaw03_RecBack.j0 k t282 true a0_0 a0_1 a0_2 a0_3 a0_4)) else (armadalaw03_RecBack.j0 k t282 true a0_0 a0_1 a0_2 a0_3 a0_4)))) else (some false)))))
set_option maxHeartbeats 8000000 in
set_option maxRecDepth 100000 in
theorem armadalaw03_RecBack.calls (k : Nat) (a0_0 : Int) (a0_1 : Int) (a0_2 : Int) (a0_3 : Int) (a0_4 : Int) (a1 : ByteArray) (a2 : Int) (r : Bool) (w : World) (h : armadalaw03_RecBack.f k a0_0 a0_1 a0_2 a0_3 a0_4 a1 a2 = some r) (hT_ : r = true := by rfl) :
    Calls Try.prog 5 #[.agg #[.int .i64 a0_0, .int .i64 a0_1, .int .i64 a0_2, .int .i64 a0_3, .int .i64 a0_4], .string a1, .int .i64 a2] w fun e w' => e = .returned (.bool r) ∧ Below w.heap.size w w' := by
  subst hT_
  have hu23 := Try.underlying23
  have hu26 := Try.underlying26
  have HB := Aside0.mk (Below.refl w.heap.size w)
  have H : (if (a1.size : Int) > 70000 then ((armadalaw03_live.f k).bind fun t281 => (some t281)) else ((rec_Cut.f k a1).bind fun t282 => (if (a1.size : Int) > 4096 then (if (t282.length : Int) = 0 then ((armadalaw03_live.f k).bind fun t285 => (some t285)) else (some false)) else ((rec_Count.f (a1.size : Int)).bind fun t286 => (if (t282.length : Int) = t286 then ((rec_Join.f k t282 (a1.size : Int)).bind fun bt287 => ((rec_Join.f k t282 a2).bind fun bt289 => (if bt287.2 = true then (if bt287.1.toList = a1.toList then (if bt289.2 = true then (if a2 < 0 then (armadalaw03_RecBack.j0 k t282 true a0_0 a0_1 a0_2 a0_3 a0_4) else (if (bt289.1.size : Int) = a2 then ((rec_Count.f a2).bind fun t291 => (armadalaw03_RecBack.j0 k t282 (t291 != (t282.length : Int)) a0_0 a0_1 a0_2 a0_3 a0_4)) else (armadalaw03_RecBack.j0 k t282 true a0_0 a0_1 a0_2 a0_3 a0_4))) else (armadalaw03_RecBack.j0 k t282 false a0_0 a0_1 a0_2 a0_3 a0_4)) else (armadalaw03_RecBack.j0 k t282 true a0_0 a0_1 a0_2 a0_3 a0_4)) else (armadalaw03_RecBack.j0 k t282 true a0_0 a0_1 a0_2 a0_3 a0_4)))) else (some false)))))) = some true := h
  clear h
  by_cases c4 : (a1.size : Int) > 70000
  · rw [if_pos c4] at H
    have c4b0 : decide (70000 < (a1.size : Int)) = true := decide_eq_true c4
    have c4b1 : decide (70000 < a1.size) = true := decide_eq_true (by omega)
    clear c4
    replace H := Option.bind_eq_some_iff.mp H
    obtain ⟨t281, A50, H⟩ := H
    replace H : (some t281) = some true := H
    have A5 := Aside0.mk A50
    clear A50
    obtain rfl := Option.some.inj H
    go_enter Try.func5, Try.ntmps5
    go_wp2_with (first | ((with_reducible refine gate_dst (N := 3) rfl ?_); (try (refine gate_guard (by rfl) ?_; dsimp only)); refine box_event ?hg (N := 3) ?hd (cs := #[.int .i64 a0_0, .int .i64 a0_1, .int .i64 a0_2, .int .i64 a0_3, .int .i64 a0_4]) (t := 23) ?hr ?_; (case hd => rfl); (case hg => rfl); (case hr => first | (go_simp; done) | (go_simp; rfl)); intro gb280 hg w6 hbox hb; have n0_ := Aside0.mk (below_step (by repeat (first | (with_reducible first | exact HB.out | apply below_alloc | apply pw_below_drewN | apply below_drew1) | exact HB.out)) hb); have n1_ := Aside0.mk (hbox); have n2_ := Aside0.mk ((by rw [hg]; exact (below_size (by repeat (first | (with_reducible first | exact HB.out | apply below_alloc | apply pw_below_drewN | apply below_drew1) | exact HB.out))) : w.heap.size ≤ gb280)); have n3_ := Aside0.mk ((by rw [hg]; exact (below_size (by repeat (first | (with_reducible first | exact HB.out | apply below_alloc | apply pw_below_drewN | apply below_drew1) | exact HB.out))) : w.heap.size ≤ gb280)); clear HB; have HB := n0_; have BK280 := n1_; have GW280 := n2_; have GE280 := n3_; clear n0_ n1_ n2_ n3_; clear hb hbox hg) | ((with_reducible refine gate_callee (f := 8) rfl ?_); refine goesL_ (some 24) rfl rfl Try.func8 (by kernel_rfl) rfl #[] rfl (by (try simp only [List.map_toArray, List.map_cons, List.map_nil]); first | done | rfl | (simp only [List.length_drop, List.length_take]; rfl)) ?_; (with_reducible refine (armadalaw03_live.calls k  true _ A5.out).mono ?_); rintro e w7 ⟨rfl, hb⟩; refine ⟨_, rfl, ?_⟩; have n0_ := Aside0.mk (blk_below (g := gb280) (o := .cells #[.int .i64 a0_0, .int .i64 a0_1, .int .i64 a0_2, .int .i64 a0_3, .int .i64 a0_4] 23 (0, 0)) (by (with_reducible repeat (first | refine blk_drewN ?_ _ | refine blk_drew ?_ | refine blk_alloc ?_ _)); exact BK280.out) hb); have n1_ := Aside0.mk (below_step (by repeat (first | (with_reducible first | exact HB.out | apply below_alloc | apply pw_below_drewN | apply below_drew1 | refine below_set ?_ GE280.out) | exact HB.out)) hb); clear BK280; clear HB; have BK280 := n0_; have HB := n1_; clear n0_ n1_; (try clear hb); (try clear hb2); (try clear hk); (try clear hi)))
    go_ret
    exact ⟨by first | rfl | (simp [errW_none, errW_some] <;> rfl) | (simp [*, errW_none, errW_some] <;> rfl), by repeat (first | (with_reducible first | exact HB.out | apply below_alloc | apply pw_below_drewN | apply below_drew1 | refine below_set ?_ GE280.out) | exact HB.out)⟩
  · rw [if_neg c4] at H
    have c4b0 : decide (70000 < (a1.size : Int)) = false := decide_eq_false c4
    have c4b1 : decide (70000 < a1.size) = false := decide_eq_false (by omega)
    clear c4
    replace H := Option.bind_eq_some_iff.mp H
    obtain ⟨t282, A80, H⟩ := H
    replace H : (if (a1.size : Int) > 4096 then (if (t282.length : Int) = 0 then ((armadalaw03_live.f k).bind fun t285 => (some t285)) else (some false)) else ((rec_Count.f (a1.size : Int)).bind fun t286 => (if (t282.length : Int) = t286 then ((rec_Join.f k t282 (a1.size : Int)).bind fun bt287 => ((rec_Join.f k t282 a2).bind fun bt289 => (if bt287.2 = true then (if bt287.1.toList = a1.toList then (if bt289.2 = true then (if a2 < 0 then (armadalaw03_RecBack.j0 k t282 true a0_0 a0_1 a0_2 a0_3 a0_4) else (if (bt289.1.size : Int) = a2 then ((rec_Count.f a2).bind fun t291 => (armadalaw03_RecBack.j0 k t282 (t291 != (t282.length : Int)) a0_0 a0_1 a0_2 a0_3 a0_4)) else (armadalaw03_RecBack.j0 k t282 true a0_0 a0_1 a0_2 a0_3 a0_4))) else (armadalaw03_RecBack.j0 k t282 false a0_0 a0_1 a0_2 a0_3 a0_4)) else (armadalaw03_RecBack.j0 k t282 true a0_0 a0_1 a0_2 a0_3 a0_4)) else (armadalaw03_RecBack.j0 k t282 true a0_0 a0_1 a0_2 a0_3 a0_4)))) else (some false)))) = some true := H
    have A8 := Aside0.mk A80
    clear A80
    by_cases c9 : (a1.size : Int) > 4096
    · rw [if_pos c9] at H
      have c9b0 : decide (4096 < (a1.size : Int)) = true := decide_eq_true c9
      have c9b1 : decide (4096 < a1.size) = true := decide_eq_true (by omega)
      clear c9
      by_cases c10 : (t282.length : Int) = 0
      · rw [if_pos c10] at H
        have c10b0 : ((t282.length : Int) == 0) = true := beq_iff_eq.mpr c10
        have c10b1 : ((t282.length : Int) != 0) = false := bne_eq_false_iff_eq.mpr c10
        clear c10
        replace H := Option.bind_eq_some_iff.mp H
        obtain ⟨t285, A110, H⟩ := H
        replace H : (some t285) = some true := H
        have A11 := Aside0.mk A110
        clear A110
        obtain rfl := Option.some.inj H
        go_enter Try.func5, Try.ntmps5
        go_wp2_with (first | ((with_reducible refine gate_dst (N := 3) rfl ?_); (try (refine gate_guard (by rfl) ?_; dsimp only)); refine box_event ?hg (N := 3) ?hd (cs := #[.int .i64 a0_0, .int .i64 a0_1, .int .i64 a0_2, .int .i64 a0_3, .int .i64 a0_4]) (t := 23) ?hr ?_; (case hd => rfl); (case hg => rfl); (case hr => first | (go_simp; done) | (go_simp; rfl)); intro gb280 hg w12 hbox hb; have n0_ := Aside0.mk (below_step (by repeat (first | (with_reducible first | exact HB.out | apply below_alloc | apply pw_below_drewN | apply below_drew1) | exact HB.out)) hb); have n1_ := Aside0.mk (hbox); have n2_ := Aside0.mk ((by rw [hg]; exact (below_size (by repeat (first | (with_reducible first | exact HB.out | apply below_alloc | apply pw_below_drewN | apply below_drew1) | exact HB.out))) : w.heap.size ≤ gb280)); have n3_ := Aside0.mk ((by rw [hg]; exact (below_size (by repeat (first | (with_reducible first | exact HB.out | apply below_alloc | apply pw_below_drewN | apply below_drew1) | exact HB.out))) : w.heap.size ≤ gb280)); clear HB; have HB := n0_; have BK280 := n1_; have GW280 := n2_; have GE280 := n3_; clear n0_ n1_ n2_ n3_; clear hb hbox hg) | ((with_reducible refine gate_callee (f := 18) rfl ?_); refine goesL_ (some 26) rfl rfl Try.func18 (by kernel_rfl) rfl #[.string a1] rfl (by (try simp only [List.map_toArray, List.map_cons, List.map_nil]); first | done | rfl | (simp only [List.length_drop, List.length_take]; rfl)) ?_; (with_reducible refine (rec_Cut.calls k a1 t282 _ A8.out).mono ?_); rintro e w13 ⟨v283, rfl, ho0, hb⟩; refine ⟨_, rfl, ?_⟩; have n0_ := Aside0.mk (Kd.R_lower ho0 (below_size (by repeat (first | (with_reducible first | exact HB.out | apply below_alloc | apply pw_below_drewN | apply below_drew1 | refine below_set ?_ GE280.out) | exact HB.out)))); have n1_ := Aside0.mk (blk_below (g := gb280) (o := .cells #[.int .i64 a0_0, .int .i64 a0_1, .int .i64 a0_2, .int .i64 a0_3, .int .i64 a0_4] 23 (0, 0)) (by (with_reducible repeat (first | refine blk_drewN ?_ _ | refine blk_drew ?_ | refine blk_alloc ?_ _)); exact BK280.out) hb); have n2_ := Aside0.mk (below_step (by repeat (first | (with_reducible first | exact HB.out | apply below_alloc | apply pw_below_drewN | apply below_drew1 | refine below_set ?_ GE280.out) | exact HB.out)) hb); clear BK280; clear HB; have HO284 := n0_; have BK280 := n1_; have HB := n2_; clear n0_ n1_ n2_; (try clear hb); (try clear hb2); (try clear hk); (try clear hi); (try clear ho0); obtain ⟨Ao14, co14, eo14⟩ := Kd.R_slice HO284.out; subst eo14) | (go_at_call 8; (with_reducible refine (armadalaw03_live.calls k  true _ A11.out).mono ?_); rintro e w15 ⟨rfl, hb⟩; have n0_ := Aside0.mk (Kd.R_below (by (with_reducible repeat (first | apply Kd.R_alloc | apply Kd.R_drewN | apply Kd.R_drew)); exact HO284.out) hb); have n1_ := Aside0.mk (blk_below (g := gb280) (o := .cells #[.int .i64 a0_0, .int .i64 a0_1, .int .i64 a0_2, .int .i64 a0_3, .int .i64 a0_4] 23 (0, 0)) (by (with_reducible repeat (first | refine blk_drewN ?_ _ | refine blk_drew ?_ | refine blk_alloc ?_ _)); exact BK280.out) hb); have n2_ := Aside0.mk (below_step (by repeat (first | (with_reducible first | exact HB.out | apply below_alloc | apply pw_below_drewN | apply below_drew1 | refine below_set ?_ GE280.out) | exact HB.out)) hb); clear HO284; clear BK280; clear HB; have HO284 := n0_; have BK280 := n1_; have HB := n2_; clear n0_ n1_ n2_; (try clear hb); (try clear hb2); (try clear hk); (try clear hi)))
        go_ret
        exact ⟨by first | rfl | (simp [errW_none, errW_some] <;> rfl) | (simp [*, errW_none, errW_some] <;> rfl), by repeat (first | (with_reducible first | exact HB.out | apply below_alloc | apply pw_below_drewN | apply below_drew1 | refine below_set ?_ GE280.out) | exact HB.out)⟩
      · rw [if_neg c10] at H
        have c10b0 : ((t282.length : Int) == 0) = false := beq_eq_false_iff_ne.mpr c10
        have c10b1 : ((t282.length : Int) != 0) = true := bne_iff_ne.mpr c10
        have c10b2 : ¬ (t282 = []) := fun h_ => c10 (by rw [h_]; rfl)
        exact absurd H (by simp)
    · rw [if_neg c9] at H
      have c9b0 : decide (4096 < (a1.size : Int)) = false := decide_eq_false c9
      have c9b1 : decide (4096 < a1.size) = false := decide_eq_false (by omega)
      clear c9
      replace H := Option.bind_eq_some_iff.mp H
      obtain ⟨t286, A160, H⟩ := H
      replace H : (if (t282.length : Int) = t286 then ((rec_Join.f k t282 (a1.size : Int)).bind fun bt287 => ((rec_Join.f k t282 a2).bind fun bt289 => (if bt287.2 = true then (if bt287.1.toList = a1.toList then (if bt289.2 = true then (if a2 < 0 then (armadalaw03_RecBack.j0 k t282 true a0_0 a0_1 a0_2 a0_3 a0_4) else (if (bt289.1.size : Int) = a2 then ((rec_Count.f a2).bind fun t291 => (armadalaw03_RecBack.j0 k t282 (t291 != (t282.length : Int)) a0_0 a0_1 a0_2 a0_3 a0_4)) else (armadalaw03_RecBack.j0 k t282 true a0_0 a0_1 a0_2 a0_3 a0_4))) else (armadalaw03_RecBack.j0 k t282 false a0_0 a0_1 a0_2 a0_3 a0_4)) else (armadalaw03_RecBack.j0 k t282 true a0_0 a0_1 a0_2 a0_3 a0_4)) else (armadalaw03_RecBack.j0 k t282 true a0_0 a0_1 a0_2 a0_3 a0_4)))) else (some false)) = some true := H
      have A16 := Aside0.mk A160
      clear A160
      by_cases c17 : (t282.length : Int) = t286
      · rw [if_pos c17] at H
        have c17b0 : ((t282.length : Int) == t286) = true := beq_iff_eq.mpr c17
        have c17b1 : ((t282.length : Int) != t286) = false := bne_eq_false_iff_eq.mpr c17
        clear c17
        replace H := Option.bind_eq_some_iff.mp H
        obtain ⟨⟨t287, t288⟩, A180, H⟩ := H
        replace H : ((rec_Join.f k t282 a2).bind fun bt289 => (if t288 = true then (if t287.toList = a1.toList then (if bt289.2 = true then (if a2 < 0 then (armadalaw03_RecBack.j0 k t282 true a0_0 a0_1 a0_2 a0_3 a0_4) else (if (bt289.1.size : Int) = a2 then ((rec_Count.f a2).bind fun t291 => (armadalaw03_RecBack.j0 k t282 (t291 != (t282.length : Int)) a0_0 a0_1 a0_2 a0_3 a0_4)) else (armadalaw03_RecBack.j0 k t282 true a0_0 a0_1 a0_2 a0_3 a0_4))) else (armadalaw03_RecBack.j0 k t282 false a0_0 a0_1 a0_2 a0_3 a0_4)) else (armadalaw03_RecBack.j0 k t282 true a0_0 a0_1 a0_2 a0_3 a0_4)) else (armadalaw03_RecBack.j0 k t282 true a0_0 a0_1 a0_2 a0_3 a0_4))) = some true := H
        have A18 := Aside0.mk A180
        clear A180
        replace H := Option.bind_eq_some_iff.mp H
        obtain ⟨⟨t289, t290⟩, A190, H⟩ := H
        replace H : (if t288 = true then (if t287.toList = a1.toList then (if t290 = true then (if a2 < 0 then (armadalaw03_RecBack.j0 k t282 true a0_0 a0_1 a0_2 a0_3 a0_4) else (if (t289.size : Int) = a2 then ((rec_Count.f a2).bind fun t291 => (armadalaw03_RecBack.j0 k t282 (t291 != (t282.length : Int)) a0_0 a0_1 a0_2 a0_3 a0_4)) else (armadalaw03_RecBack.j0 k t282 true a0_0 a0_1 a0_2 a0_3 a0_4))) else (armadalaw03_RecBack.j0 k t282 false a0_0 a0_1 a0_2 a0_3 a0_4)) else (armadalaw03_RecBack.j0 k t282 true a0_0 a0_1 a0_2 a0_3 a0_4)) else (armadalaw03_RecBack.j0 k t282 true a0_0 a0_1 a0_2 a0_3 a0_4)) = some true := H
        have A19 := Aside0.mk A190
        clear A190
        have HC20 := Aside0.mk H
        clear H
        go_enter Try.func5, Try.ntmps5
        go_upto_region 10 with (first | ((with_reducible refine gate_dst (N := 3) rfl ?_); (try (refine gate_guard (by rfl) ?_; dsimp only)); refine box_event ?hg (N := 3) ?hd (cs := #[.int .i64 a0_0, .int .i64 a0_1, .int .i64 a0_2, .int .i64 a0_3, .int .i64 a0_4]) (t := 23) ?hr ?_; (case hd => rfl); (case hg => rfl); (case hr => first | (go_simp; done) | (go_simp; rfl)); intro gb280 hg w21 hbox hb; have n0_ := Aside0.mk (below_step (by repeat (first | (with_reducible first | exact HB.out | apply below_alloc | apply pw_below_drewN | apply below_drew1) | exact HB.out)) hb); have n1_ := Aside0.mk (hbox); have n2_ := Aside0.mk ((by rw [hg]; exact (below_size (by repeat (first | (with_reducible first | exact HB.out | apply below_alloc | apply pw_below_drewN | apply below_drew1) | exact HB.out))) : w.heap.size ≤ gb280)); have n3_ := Aside0.mk ((by rw [hg]; exact (below_size (by repeat (first | (with_reducible first | exact HB.out | apply below_alloc | apply pw_below_drewN | apply below_drew1) | exact HB.out))) : w.heap.size ≤ gb280)); clear HB; have HB := n0_; have BK280 := n1_; have GW280 := n2_; have GE280 := n3_; clear n0_ n1_ n2_ n3_; clear hb hbox hg) | ((with_reducible refine gate_callee (f := 18) rfl ?_); refine goesL_ (some 26) rfl rfl Try.func18 (by kernel_rfl) rfl #[.string a1] rfl (by (try simp only [List.map_toArray, List.map_cons, List.map_nil]); first | done | rfl | (simp only [List.length_drop, List.length_take]; rfl)) ?_; (with_reducible refine (rec_Cut.calls k a1 t282 _ A8.out).mono ?_); rintro e w22 ⟨v283, rfl, ho0, hb⟩; refine ⟨_, rfl, ?_⟩; have n0_ := Aside0.mk (Kd.R_lower ho0 (below_size (by repeat (first | (with_reducible first | exact HB.out | apply below_alloc | apply pw_below_drewN | apply below_drew1 | refine below_set ?_ GE280.out) | exact HB.out)))); have n1_ := Aside0.mk (blk_below (g := gb280) (o := .cells #[.int .i64 a0_0, .int .i64 a0_1, .int .i64 a0_2, .int .i64 a0_3, .int .i64 a0_4] 23 (0, 0)) (by (with_reducible repeat (first | refine blk_drewN ?_ _ | refine blk_drew ?_ | refine blk_alloc ?_ _)); exact BK280.out) hb); have n2_ := Aside0.mk (below_step (by repeat (first | (with_reducible first | exact HB.out | apply below_alloc | apply pw_below_drewN | apply below_drew1 | refine below_set ?_ GE280.out) | exact HB.out)) hb); clear BK280; clear HB; have HO284 := n0_; have BK280 := n1_; have HB := n2_; clear n0_ n1_ n2_; (try clear hb); (try clear hb2); (try clear hk); (try clear hi); (try clear ho0); obtain ⟨Ao23, co23, eo23⟩ := Kd.R_slice HO284.out; subst eo23) | ((with_reducible refine gate_callee (f := 20) rfl ?_); refine goesL_ (some 40) rfl rfl Try.func20 (by kernel_rfl) rfl #[.int .i64 (a1.size : Int)] rfl (by (try simp only [List.map_toArray, List.map_cons, List.map_nil]); first | done | rfl | (simp only [List.length_drop, List.length_take]; rfl)) ?_; (with_reducible refine (rec_Count.calls (a1.size : Int) t286 _ A16.out).mono ?_); rintro e w' ⟨rfl, ⟨nd, rfl⟩⟩; refine ⟨_, rfl, ?_⟩) | (go_at_call 20; (with_reducible refine (rec_Count.calls (a1.size : Int) t286 _ A16.out).mono ?_); rintro e w' ⟨rfl, ⟨nd, rfl⟩⟩) | ((with_reducible refine gate_callee (f := 15) rfl ?_); refine goesL_ (some 46) rfl rfl Try.func15 (by kernel_rfl) rfl #[.slice Ao23 t282.length co23, .int .i64 (a1.size : Int)] rfl (by (try simp only [List.map_toArray, List.map_cons, List.map_nil]); first | done | rfl | (simp only [List.length_drop, List.length_take]; rfl)) ?_; (with_reducible refine (rec_Join.calls k _ _ t282 (a1.size : Int) t287 t288 _ ?side1 ?side2 A18.out).mono ?_); (case side1 => repeat (first | exact (Kd.R_reads' HO284.out).2.2 | (with_reducible refine Kd.C_alloc ?_ _) | (with_reducible refine Kd.C_drewN ?_ _) | (with_reducible refine Kd.C_drew ?_))); (case side2 => exact (Kd.R_reads' HO284.out).2.1); rintro e w24 ⟨rfl, hb⟩; refine ⟨_, rfl, ?_⟩; have n0_ := Aside0.mk (Kd.R_below (by (with_reducible repeat (first | apply Kd.R_alloc | apply Kd.R_drewN | apply Kd.R_drew)); exact HO284.out) hb); have n1_ := Aside0.mk (blk_below (g := gb280) (o := .cells #[.int .i64 a0_0, .int .i64 a0_1, .int .i64 a0_2, .int .i64 a0_3, .int .i64 a0_4] 23 (0, 0)) (by (with_reducible repeat (first | refine blk_drewN ?_ _ | refine blk_drew ?_ | refine blk_alloc ?_ _)); exact BK280.out) hb); have n2_ := Aside0.mk (below_step (by repeat (first | (with_reducible first | exact HB.out | apply below_alloc | apply pw_below_drewN | apply below_drew1 | refine below_set ?_ GE280.out) | exact HB.out)) hb); clear HO284; clear BK280; clear HB; have HO284 := n0_; have BK280 := n1_; have HB := n2_; clear n0_ n1_ n2_; (try clear hb); (try clear hb2); (try clear hk); (try clear hi)) | ((with_reducible refine gate_callee (f := 15) rfl ?_); refine goesL_ (some 52) rfl rfl Try.func15 (by kernel_rfl) rfl #[.slice Ao23 t282.length co23, .int .i64 a2] rfl (by (try simp only [List.map_toArray, List.map_cons, List.map_nil]); first | done | rfl | (simp only [List.length_drop, List.length_take]; rfl)) ?_; (with_reducible refine (rec_Join.calls k _ _ t282 a2 t289 t290 _ ?side1 ?side2 A19.out).mono ?_); (case side1 => repeat (first | exact (Kd.R_reads' HO284.out).2.2 | (with_reducible refine Kd.C_alloc ?_ _) | (with_reducible refine Kd.C_drewN ?_ _) | (with_reducible refine Kd.C_drew ?_))); (case side2 => exact (Kd.R_reads' HO284.out).2.1); rintro e w25 ⟨rfl, hb⟩; refine ⟨_, rfl, ?_⟩; have n0_ := Aside0.mk (Kd.R_below (by (with_reducible repeat (first | apply Kd.R_alloc | apply Kd.R_drewN | apply Kd.R_drew)); exact HO284.out) hb); have n1_ := Aside0.mk (blk_below (g := gb280) (o := .cells #[.int .i64 a0_0, .int .i64 a0_1, .int .i64 a0_2, .int .i64 a0_3, .int .i64 a0_4] 23 (0, 0)) (by (with_reducible repeat (first | refine blk_drewN ?_ _ | refine blk_drew ?_ | refine blk_alloc ?_ _)); exact BK280.out) hb); have n2_ := Aside0.mk (below_step (by repeat (first | (with_reducible first | exact HB.out | apply below_alloc | apply pw_below_drewN | apply below_drew1 | refine below_set ?_ GE280.out) | exact HB.out)) hb); clear HO284; clear BK280; clear HB; have HO284 := n0_; have BK280 := n1_; have HB := n2_; clear n0_ n1_ n2_; (try clear hb); (try clear hb2); (try clear hk); (try clear hi)))
        (try simp only [Act.put, List.setIfInBounds_toArray, List.set_cons_zero, List.set_cons_succ])
        go_cut [81] (fun v81 wc => ∃ (kq : Nat) (x81_19 : Bool), v81 = .bool x81_19 ∧ Aside0 (armadalaw03_RecBack.j0 kq t282 x81_19 a0_0 a0_1 a0_2 a0_3 a0_4 = some true) ∧ Aside0 (kq ≤ k) ∧ Aside0 (Kd.R Kd.string 9 wc w.heap.size (fun _ => True) (.slice Ao23 t282.length co23) t282) ∧ Aside0 (wc.heap[gb280]? = some (.cells #[.int .i64 a0_0, .int .i64 a0_1, .int .i64 a0_2, .int .i64 a0_3, .int .i64 a0_4] 23 (0, 0))) ∧ Aside0 (Below w.heap.size w wc))
        case first =>
          have H := HC20.out
          clear HC20
          by_cases c26 : t288 = true
          · subst c26
            have H1 : (if t287.toList = a1.toList then (if t290 = true then (if a2 < 0 then (armadalaw03_RecBack.j0 k t282 true a0_0 a0_1 a0_2 a0_3 a0_4) else (if (t289.size : Int) = a2 then ((rec_Count.f a2).bind fun t291 => (armadalaw03_RecBack.j0 k t282 (t291 != (t282.length : Int)) a0_0 a0_1 a0_2 a0_3 a0_4)) else (armadalaw03_RecBack.j0 k t282 true a0_0 a0_1 a0_2 a0_3 a0_4))) else (armadalaw03_RecBack.j0 k t282 false a0_0 a0_1 a0_2 a0_3 a0_4)) else (armadalaw03_RecBack.j0 k t282 true a0_0 a0_1 a0_2 a0_3 a0_4)) = some true := by rw [if_pos rfl] at H; exact H
            clear H
            have H := H1
            clear H1
            by_cases c27 : t287.toList = a1.toList
            · rw [if_pos c27] at H
              have c27b0 : (t287.toList == a1.toList) = true := beq_iff_eq.mpr c27
              have c27b1 : (t287.toList != a1.toList) = false := bne_eq_false_iff_eq.mpr c27
              clear c27
              (first | rw [c27b0] | (simp only [i64_w, i32_w]; rw [c27b0]) | skip)
              by_cases c28 : t290 = true
              · subst c28
                have H1 : (if a2 < 0 then (armadalaw03_RecBack.j0 k t282 true a0_0 a0_1 a0_2 a0_3 a0_4) else (if (t289.size : Int) = a2 then ((rec_Count.f a2).bind fun t291 => (armadalaw03_RecBack.j0 k t282 (t291 != (t282.length : Int)) a0_0 a0_1 a0_2 a0_3 a0_4)) else (armadalaw03_RecBack.j0 k t282 true a0_0 a0_1 a0_2 a0_3 a0_4))) = some true := by rw [if_pos rfl] at H; exact H
                clear H
                have H := H1
                clear H1
                by_cases c29 : a2 < 0
                · rw [if_pos c29] at H
                  have c29b0 : decide (a2 < 0) = true := decide_eq_true c29
                  clear c29
                  have H' := Aside0.mk H
                  clear H
                  go_wp2
                  go_meet
                  case rel => exact ⟨_, (true), (by first | rfl | (simp; done) | (simp [*]; done)), H', ⟨by first | omega | exact Nat.le_refl _⟩, ⟨by (with_reducible repeat (first | apply Kd.R_alloc | apply Kd.R_drewN | apply Kd.R_drew)); exact HO284.out⟩, ⟨by (with_reducible repeat (first | refine blk_drewN ?_ _ | refine blk_drew ?_ | refine blk_alloc ?_ _)); exact BK280.out⟩, ⟨by repeat (first | (with_reducible first | exact HB.out | apply below_alloc | apply pw_below_drewN | apply below_drew1 | refine below_set ?_ GE280.out) | exact HB.out)⟩⟩
                · rw [if_neg c29] at H
                  have c29b0 : decide (a2 < 0) = false := decide_eq_false c29
                  clear c29
                  by_cases c30 : (t289.size : Int) = a2
                  · rw [if_pos c30] at H
                    have c30b0 : ((t289.size : Int) == a2) = true := beq_iff_eq.mpr c30
                    have c30b1 : ((t289.size : Int) != a2) = false := bne_eq_false_iff_eq.mpr c30
                    clear c30
                    replace H := Option.bind_eq_some_iff.mp H
                    obtain ⟨t291, A310, H⟩ := H
                    replace H : (armadalaw03_RecBack.j0 k t282 (t291 != (t282.length : Int)) a0_0 a0_1 a0_2 a0_3 a0_4) = some true := H
                    have A31 := Aside0.mk A310
                    clear A310
                    have H' := Aside0.mk H
                    clear H
                    go_wp2_with (first | (go_at_call 20; (with_reducible refine (rec_Count.calls a2 t291 _ A31.out).mono ?_); rintro e w' ⟨rfl, ⟨nd, rfl⟩⟩))
                    go_meet
                    case rel => exact ⟨_, ((t291 != (t282.length : Int))), (by first | rfl | (simp; done) | (simp [*]; done)), H', ⟨by first | omega | exact Nat.le_refl _⟩, ⟨by (with_reducible repeat (first | apply Kd.R_alloc | apply Kd.R_drewN | apply Kd.R_drew)); exact HO284.out⟩, ⟨by (with_reducible repeat (first | refine blk_drewN ?_ _ | refine blk_drew ?_ | refine blk_alloc ?_ _)); exact BK280.out⟩, ⟨by repeat (first | (with_reducible first | exact HB.out | apply below_alloc | apply pw_below_drewN | apply below_drew1 | refine below_set ?_ GE280.out) | exact HB.out)⟩⟩
                  · rw [if_neg c30] at H
                    have c30b0 : ((t289.size : Int) == a2) = false := beq_eq_false_iff_ne.mpr c30
                    have c30b1 : ((t289.size : Int) != a2) = true := bne_iff_ne.mpr c30
                    have H' := Aside0.mk H
                    clear H
                    go_wp2
                    go_meet
                    case rel => exact ⟨_, (true), (by first | rfl | (simp; done) | (simp [*]; done)), H', ⟨by first | omega | exact Nat.le_refl _⟩, ⟨by (with_reducible repeat (first | apply Kd.R_alloc | apply Kd.R_drewN | apply Kd.R_drew)); exact HO284.out⟩, ⟨by (with_reducible repeat (first | refine blk_drewN ?_ _ | refine blk_drew ?_ | refine blk_alloc ?_ _)); exact BK280.out⟩, ⟨by repeat (first | (with_reducible first | exact HB.out | apply below_alloc | apply pw_below_drewN | apply below_drew1 | refine below_set ?_ GE280.out) | exact HB.out)⟩⟩
              · replace c28 := Bool.eq_false_iff.mpr c28
                subst c28
                have H1 : (armadalaw03_RecBack.j0 k t282 false a0_0 a0_1 a0_2 a0_3 a0_4) = some true := by rw [if_neg (show ¬ (false = true) by decide)] at H; exact H
                clear H
                have H := H1
                clear H1
                have H' := Aside0.mk H
                clear H
                go_wp2
                go_meet
                case rel => exact ⟨_, (false), (by first | rfl | (simp; done) | (simp [*]; done)), H', ⟨by first | omega | exact Nat.le_refl _⟩, ⟨by (with_reducible repeat (first | apply Kd.R_alloc | apply Kd.R_drewN | apply Kd.R_drew)); exact HO284.out⟩, ⟨by (with_reducible repeat (first | refine blk_drewN ?_ _ | refine blk_drew ?_ | refine blk_alloc ?_ _)); exact BK280.out⟩, ⟨by repeat (first | (with_reducible first | exact HB.out | apply below_alloc | apply pw_below_drewN | apply below_drew1 | refine below_set ?_ GE280.out) | exact HB.out)⟩⟩
            · rw [if_neg c27] at H
              have c27b0 : (t287.toList == a1.toList) = false := beq_eq_false_iff_ne.mpr c27
              have c27b1 : (t287.toList != a1.toList) = true := bne_iff_ne.mpr c27
              (first | rw [c27b0] | (simp only [i64_w, i32_w]; rw [c27b0]) | skip)
              have H' := Aside0.mk H
              clear H
              go_wp2
              go_meet
              case rel => exact ⟨_, (true), (by first | rfl | (simp; done) | (simp [*]; done)), H', ⟨by first | omega | exact Nat.le_refl _⟩, ⟨by (with_reducible repeat (first | apply Kd.R_alloc | apply Kd.R_drewN | apply Kd.R_drew)); exact HO284.out⟩, ⟨by (with_reducible repeat (first | refine blk_drewN ?_ _ | refine blk_drew ?_ | refine blk_alloc ?_ _)); exact BK280.out⟩, ⟨by repeat (first | (with_reducible first | exact HB.out | apply below_alloc | apply pw_below_drewN | apply below_drew1 | refine below_set ?_ GE280.out) | exact HB.out)⟩⟩
          · replace c26 := Bool.eq_false_iff.mpr c26
            subst c26
            have H1 : (armadalaw03_RecBack.j0 k t282 true a0_0 a0_1 a0_2 a0_3 a0_4) = some true := by rw [if_neg (show ¬ (false = true) by decide)] at H; exact H
            clear H
            have H := H1
            clear H1
            have H' := Aside0.mk H
            clear H
            go_wp2
            go_meet
            case rel => exact ⟨_, (true), (by first | rfl | (simp; done) | (simp [*]; done)), H', ⟨by first | omega | exact Nat.le_refl _⟩, ⟨by (with_reducible repeat (first | apply Kd.R_alloc | apply Kd.R_drewN | apply Kd.R_drew)); exact HO284.out⟩, ⟨by (with_reducible repeat (first | refine blk_drewN ?_ _ | refine blk_drew ?_ | refine blk_alloc ?_ _)); exact BK280.out⟩, ⟨by repeat (first | (with_reducible first | exact HB.out | apply below_alloc | apply pw_below_drewN | apply below_drew1 | refine below_set ?_ GE280.out) | exact HB.out)⟩⟩
        case rest =>
          clear HC20
          try clear c1
          try clear c2
          try clear p2
          try clear c3
          try clear c4
          try clear c4b0
          try clear c4b1
          try clear c5
          try clear c8
          try clear c9
          try clear c9b0
          try clear c9b1
          try clear c10
          try clear c10b0
          try clear c10b1
          try clear c10b2
          try clear c15
          try clear c17
          try clear c17b0
          try clear c17b1
          try clear c18
          try clear c20
          try clear c26
          try clear c27
          try clear c27b0
          try clear c27b1
          try clear c28
          try clear c29
          try clear c29b0
          try clear c30
          try clear c30b0
          try clear c30b1
          obtain ⟨kq, x81_19, rfl, HA, HJ19, HO_7, BK280, HB⟩ := hcut
          cases kq with
          | zero => exact absurd HA.out (by simp [armadalaw03_RecBack.j0])
          | succ kj19 =>
            have H := HA.out
            clear HA
            simp only [armadalaw03_RecBack.j0] at H
            by_cases c32 : x81_19 = true
            · subst c32
              have H1 : (some false) = some true := by rw [if_pos rfl] at H; exact H
              clear H
              have H := H1
              clear H1
              exact absurd H (by simp)
            · replace c32 := Bool.eq_false_iff.mpr c32
              subst c32
              have H1 : (armadalaw03_RecBack.l0 kj19 t282 0 a0_0 a0_1 a0_2 a0_3 a0_4) = some true := by rw [if_neg (show ¬ (false = true) by decide)] at H; exact H
              clear H
              have H := H1
              clear H1
              have H' := Aside0.mk H
              clear H
              go_wp2
              go_loopg [12] kj19 (fun kq v12 w' => ∃ (x12_2 : Int), v12 = .int .i64 x12_2 ∧ Aside0 (armadalaw03_RecBack.l0 kq t282 x12_2 a0_0 a0_1 a0_2 a0_3 a0_4 = some true) ∧ Aside0 (kq ≤ kj19) ∧ Aside0 (Kd.R Kd.string 9 w' w.heap.size (fun _ => True) (.slice Ao23 t282.length co23) t282) ∧ Aside0 (w'.heap[gb280]? = some (.cells #[.int .i64 a0_0, .int .i64 a0_1, .int .i64 a0_2, .int .i64 a0_3, .int .i64 a0_4] 23 (0, 0))) ∧ Aside0 (Below w.heap.size w w'))
              case atStart => exact ⟨(0), (by first | rfl | (simp; done) | (simp [*]; done)), H', ⟨Nat.le_refl _⟩, ⟨by (with_reducible repeat (first | apply Kd.R_alloc | apply Kd.R_drewN | apply Kd.R_drew)); exact HO_7.out⟩, ⟨by (with_reducible repeat (first | refine blk_drewN ?_ _ | refine blk_drew ?_ | refine blk_alloc ?_ _)); exact BK280.out⟩, ⟨by repeat (first | (with_reducible first | exact HB.out | apply below_alloc | apply pw_below_drewN | apply below_drew1 | refine below_set ?_ GE280.out) | exact HB.out)⟩⟩
              case round =>
                clear H'
                try clear c1
                try clear c2
                try clear p2
                try clear c3
                try clear c4
                try clear c4b0
                try clear c4b1
                try clear c5
                try clear c8
                try clear c9
                try clear c9b0
                try clear c9b1
                try clear c10
                try clear c10b0
                try clear c10b1
                try clear c10b2
                try clear c15
                try clear c17
                try clear c17b0
                try clear c17b1
                try clear c18
                try clear c20
                try clear c26
                try clear c27
                try clear c27b0
                try clear c27b1
                try clear c28
                try clear c29
                try clear c29b0
                try clear c30
                try clear c30b0
                try clear c30b1
                try clear c32
                try clear p2
                obtain ⟨x12_2, rfl, HA, HK2, HO_7, BK280, HB⟩ := hrel
                cases gk with
                | zero => exact absurd HA.out (by simp [armadalaw03_RecBack.l0])
                | succ k2 =>
                  have H := HA.out
                  clear HA
                  simp only [armadalaw03_RecBack.l0] at H
                  by_cases c33 : x12_2 < (t282.length : Int)
                  · rw [if_pos c33] at H
                    have c33b0 : decide (x12_2 < (t282.length : Int)) = true := decide_eq_true c33
                    clear c33
                    by_cases c34 : 0 ≤ x12_2
                    · rw [if_pos c34] at H
                      have c34b0 : decide (0 ≤ x12_2) = true := decide_eq_true c34
                      clear c34
                      replace H := Option.bind_eq_some_iff.mp H
                      obtain ⟨⟨t293, t294, t295, t296, t297, t298⟩, A350, H⟩ := H
                      replace H : (if t298 = true then (some false) else (if ((rdOf ByteArray.empty t282 x12_2).size : Int) = 32 then (armadalaw03_RecBack.l0 k2 t282 (wrap64 (x12_2 + 1)) a0_0 a0_1 a0_2 a0_3 a0_4) else (some false))) = some true := H
                      have A35 := Aside0.mk A350
                      clear A350
                      by_cases c36 : t298 = true
                      · subst c36
                        have H1 : (some false) = some true := by rw [if_pos rfl] at H; exact H
                        clear H
                        have H := H1
                        clear H1
                        exact absurd H (by simp)
                      · replace c36 := Bool.eq_false_iff.mpr c36
                        subst c36
                        have H1 : (if ((rdOf ByteArray.empty t282 x12_2).size : Int) = 32 then (armadalaw03_RecBack.l0 k2 t282 (wrap64 (x12_2 + 1)) a0_0 a0_1 a0_2 a0_3 a0_4) else (some false)) = some true := by rw [if_neg (show ¬ (false = true) by decide)] at H; exact H
                        clear H
                        have H := H1
                        clear H1
                        by_cases c37 : ((rdOf ByteArray.empty t282 x12_2).size : Int) = 32
                        · rw [if_pos c37] at H
                          have c37b0 : (((rdOf ByteArray.empty t282 x12_2).size : Int) == 32) = true := beq_iff_eq.mpr c37
                          have c37b1 : (((rdOf ByteArray.empty t282 x12_2).size : Int) != 32) = false := bne_eq_false_iff_eq.mpr c37
                          clear c37
                          have H' := Aside0.mk H
                          clear H
                          have p292 : 0 ≤ (x12_2 : Int) := of_decide_eq_true (by first | (with_reducible assumption) | assumption)
                          have q292 : x12_2 < (t282.length : Int) := of_decide_eq_true (by first | (with_reducible assumption) | assumption)
                          obtain ⟨ad292, e292, hx292_0⟩ := Kd.at_string (Kd.R_reads' HO_7.out).2.2 x12_2 p292 q292
                          cases e292
                          replace p292 := eq_true p292
                          replace q292 := eq_true q292
                          go_wp2_with (first | ((with_reducible refine gate_callee (f := 11) rfl ?_); refine goesL_ (some 93) rfl rfl Try.func11 (by kernel_rfl) rfl #[.string (rdOf ByteArray.empty t282 x12_2)] rfl (by (try simp only [List.map_toArray, List.map_cons, List.map_nil]); first | done | rfl | (simp only [List.length_drop, List.length_take]; rfl)) ?_; (with_reducible refine (rec_Read.calls k2 (rdOf ByteArray.empty t282 x12_2) t293 t294 t295 t296 t297 false _ A35.out).mono ?_); rintro e w38 ⟨rfl, hb⟩; refine ⟨_, rfl, ?_⟩; have n0_ := Aside0.mk (Kd.R_below (by (with_reducible repeat (first | apply Kd.R_alloc | apply Kd.R_drewN | apply Kd.R_drew)); exact HO_7.out) hb); have n1_ := Aside0.mk (blk_below (g := gb280) (o := .cells #[.int .i64 a0_0, .int .i64 a0_1, .int .i64 a0_2, .int .i64 a0_3, .int .i64 a0_4] 23 (0, 0)) (by (with_reducible repeat (first | refine blk_drewN ?_ _ | refine blk_drew ?_ | refine blk_alloc ?_ _)); exact BK280.out) hb); have n2_ := Aside0.mk (below_step (by repeat (first | (with_reducible first | exact HB.out | apply below_alloc | apply pw_below_drewN | apply below_drew1 | refine below_set ?_ GE280.out) | exact HB.out)) hb); clear HO_7; clear BK280; clear HB; have HO_7 := n0_; have BK280 := n1_; have HB := n2_; clear n0_ n1_ n2_; (try clear hb); (try clear hb2); (try clear hk); (try clear hi)) | ((with_reducible refine gate_dst (N := 13) rfl ?_); (try (refine gate_guard (by rfl) ?_; dsimp only)); refine box_event ?hg (N := 13) ?hd (cs := #[.int .i64 0, .int .i64 0, .int .i64 0, .int .i64 0, .int .i64 0]) (t := 26) ?hr ?_; (case hd => rfl); (case hg => rfl); (case hr => first | (go_simp; done) | (go_simp; rfl)); intro gb299 hg w39 hbox hb; have n0_ := Aside0.mk (Kd.R_below (by (with_reducible repeat (first | apply Kd.R_alloc | apply Kd.R_drewN | apply Kd.R_drew)); exact HO_7.out) hb); have n1_ := Aside0.mk (blk_below (g := gb280) (o := .cells #[.int .i64 a0_0, .int .i64 a0_1, .int .i64 a0_2, .int .i64 a0_3, .int .i64 a0_4] 23 (0, 0)) (by (with_reducible repeat (first | refine blk_drewN ?_ _ | refine blk_drew ?_ | refine blk_alloc ?_ _)); exact BK280.out) hb); have n2_ := Aside0.mk (below_step (by repeat (first | (with_reducible first | exact HB.out | apply below_alloc | apply pw_below_drewN | apply below_drew1 | refine below_set ?_ GE280.out) | exact HB.out)) hb); have n3_ := Aside0.mk (hbox); have n4_ := Aside0.mk ((by rw [hg]; exact (below_size (by repeat (first | (with_reducible first | exact HB.out | apply below_alloc | apply pw_below_drewN | apply below_drew1 | refine below_set ?_ GE280.out) | exact HB.out))) : w.heap.size ≤ gb299)); have n5_ := Aside0.mk ((by rw [hg]; exact (below_size (by repeat (first | (with_reducible first | exact HB.out | apply below_alloc | apply pw_below_drewN | apply below_drew1 | refine below_set ?_ GE280.out) | exact HB.out))) : w.heap.size ≤ gb299)); have n6_ := Aside0.mk ((by rw [hg]; exact Nat.ne_of_lt (blk_lt (g := gb280) (o := .cells #[.int .i64 a0_0, .int .i64 a0_1, .int .i64 a0_2, .int .i64 a0_3, .int .i64 a0_4] 23 (0, 0)) (by (with_reducible repeat (first | refine blk_drewN ?_ _ | refine blk_drew ?_ | refine blk_alloc ?_ _)); exact BK280.out)) : gb280 ≠ gb299)); have n7_ := Aside0.mk ((by rw [hg]; exact Nat.ne_of_gt (blk_lt (g := gb280) (o := .cells #[.int .i64 a0_0, .int .i64 a0_1, .int .i64 a0_2, .int .i64 a0_3, .int .i64 a0_4] 23 (0, 0)) (by (with_reducible repeat (first | refine blk_drewN ?_ _ | refine blk_drew ?_ | refine blk_alloc ?_ _)); exact BK280.out)) : gb299 ≠ gb280)); clear HO_7; clear BK280; clear HB; have HO_7 := n0_; have BK280 := n1_; have HB := n2_; have BK299 := n3_; have GW299 := n4_; have GE299 := n5_; have NB280_299 := n6_; have NB299_280 := n7_; clear n0_ n1_ n2_ n3_ n4_ n5_ n6_ n7_; clear hb hbox hg; have hnb40 := NB299_280.out; have hnc40 := NB280_299.out; have hcz41_0 : w39.cell? ⟨gb299, 0, none⟩ = some (.int .i64 0) := (blk_cell BK299.out 0).trans rfl; have hcz41_1 : w39.cell? ⟨gb299, 1, none⟩ = some (.int .i64 0) := (blk_cell BK299.out 1).trans rfl; have hcz41_2 : w39.cell? ⟨gb299, 2, none⟩ = some (.int .i64 0) := (blk_cell BK299.out 2).trans rfl; have hcz41_3 : w39.cell? ⟨gb299, 3, none⟩ = some (.int .i64 0) := (blk_cell BK299.out 3).trans rfl; have hcz41_4 : w39.cell? ⟨gb299, 4, none⟩ = some (.int .i64 0) := (blk_cell BK299.out 4).trans rfl; have hfz41_0 := blk_frozen BK299.out 0; have hfz41_1 := blk_frozen BK299.out 1; have hfz41_2 := blk_frozen BK299.out 2; have hfz41_3 := blk_frozen BK299.out 3; have hfz41_4 := blk_frozen BK299.out 4; have p300 : 0 ≤ (x12_2 : Int) := of_decide_eq_true (by first | (with_reducible assumption) | assumption); have q300 : x12_2 < (t282.length : Int) := of_decide_eq_true (by first | (with_reducible assumption) | assumption); obtain ⟨ad300, e300, hx300_0⟩ := Kd.at_string (Kd.R_reads' HO_7.out).2.2 x12_2 p300 q300; obtain rfl : ad292 = ad300 := (by injection e300); have hn300_0 : ad292.block ≠ gb299 := Kd.own_blk (Kd.R_ne HO_7.out BK299.out (by decide)); have hn300_1 : ad292.block ≠ gb299 := Kd.own_blk (Kd.R_ne HO_7.out BK299.out (by decide)); have hn300_2 : ad292.block ≠ gb299 := Kd.own_blk (Kd.R_ne HO_7.out BK299.out (by decide)); have hn300_3 : ad292.block ≠ gb299 := Kd.own_blk (Kd.R_ne HO_7.out BK299.out (by decide)); have hn300_4 : ad292.block ≠ gb299 := Kd.own_blk (Kd.R_ne HO_7.out BK299.out (by decide)); replace hx300_0 := (cell_far (p := ⟨gb299, 0, none⟩) (by first | (rw [add_block]; exact hn300_0) | (show (Addr.add _ _).block ≠ _; rw [add_block]; exact hn300_0) | exact hn300_0) (.int .i64 t293)).trans hx300_0; replace hx300_0 := (cell_far (p := ⟨gb299, 1, none⟩) (by first | (rw [add_block]; exact hn300_1) | (show (Addr.add _ _).block ≠ _; rw [add_block]; exact hn300_1) | exact hn300_1) (.int .i64 t294)).trans hx300_0; replace hx300_0 := (cell_far (p := ⟨gb299, 2, none⟩) (by first | (rw [add_block]; exact hn300_2) | (show (Addr.add _ _).block ≠ _; rw [add_block]; exact hn300_2) | exact hn300_2) (.int .i64 t295)).trans hx300_0; replace hx300_0 := (cell_far (p := ⟨gb299, 3, none⟩) (by first | (rw [add_block]; exact hn300_3) | (show (Addr.add _ _).block ≠ _; rw [add_block]; exact hn300_3) | exact hn300_3) (.int .i64 t296)).trans hx300_0; replace hx300_0 := (cell_far (p := ⟨gb299, 4, none⟩) (by first | (rw [add_block]; exact hn300_4) | (show (Addr.add _ _).block ≠ _; rw [add_block]; exact hn300_4) | exact hn300_4) (.int .i64 t297)).trans hx300_0; clear hn300_0; clear hn300_1; clear hn300_2; clear hn300_3; clear hn300_4; replace p300 := eq_true p300; replace q300 := eq_true q300))
                          go_roundg k2
                          case measure => have := HJ19.out; have := HK2.out; omega
                          case rel => exact ⟨(wrap64 (x12_2 + 1)), (by first | rfl | (simp; done) | (simp [*]; done)), H', ⟨by have := HJ19.out; have := HK2.out; omega⟩, ⟨by (with_reducible repeat (first | apply Kd.R_alloc | apply Kd.R_drewN | apply Kd.R_drew)); exact Kd.R_mono (Kd.R_far (p := ⟨gb299, 4, none⟩) (Kd.R_far (p := ⟨gb299, 3, none⟩) (Kd.R_far (p := ⟨gb299, 2, none⟩) (Kd.R_far (p := ⟨gb299, 1, none⟩) (Kd.R_far (p := ⟨gb299, 0, none⟩) (Kd.R_types HO_7.out BK299.out (by decide)) (fun _ hk => hk.2) (.int .i64 t293)) (fun _ hk => hk.2) (.int .i64 t294)) (fun _ hk => hk.2) (.int .i64 t295)) (fun _ hk => hk.2) (.int .i64 t296)) (fun _ hk => hk.2) (.int .i64 t297)) (fun _ hk => trivial)⟩, ⟨by (with_reducible repeat (first | refine blk_drewN ?_ _ | refine blk_drew ?_ | refine blk_alloc ?_ _)); refine blk_far ?_ NB280_299.out _; (with_reducible repeat (first | refine blk_drewN ?_ _ | refine blk_drew ?_ | refine blk_alloc ?_ _)); refine blk_far ?_ NB280_299.out _; (with_reducible repeat (first | refine blk_drewN ?_ _ | refine blk_drew ?_ | refine blk_alloc ?_ _)); refine blk_far ?_ NB280_299.out _; (with_reducible repeat (first | refine blk_drewN ?_ _ | refine blk_drew ?_ | refine blk_alloc ?_ _)); refine blk_far ?_ NB280_299.out _; (with_reducible repeat (first | refine blk_drewN ?_ _ | refine blk_drew ?_ | refine blk_alloc ?_ _)); refine blk_far ?_ NB280_299.out _; (with_reducible repeat (first | refine blk_drewN ?_ _ | refine blk_drew ?_ | refine blk_alloc ?_ _)); exact BK280.out⟩, ⟨by repeat (first | (with_reducible first | exact HB.out | apply below_alloc | apply pw_below_drewN | apply below_drew1 | refine below_set ?_ GE280.out | refine below_set ?_ GE299.out) | exact HB.out)⟩⟩
                        · rw [if_neg c37] at H
                          have c37b0 : (((rdOf ByteArray.empty t282 x12_2).size : Int) == 32) = false := beq_eq_false_iff_ne.mpr c37
                          have c37b1 : (((rdOf ByteArray.empty t282 x12_2).size : Int) != 32) = true := bne_iff_ne.mpr c37
                          exact absurd H (by simp)
                    · rw [if_neg c34] at H
                      exact absurd H (by simp)
                  · rw [if_neg c33] at H
                    have c33b0 : decide (x12_2 < (t282.length : Int)) = false := decide_eq_false c33
                    clear c33
                    replace H := Option.bind_eq_some_iff.mp H
                    obtain ⟨⟨t301, t302⟩, A420, H⟩ := H
                    replace H : (if t302 = true then ((rec_Read.f k2 t301).bind fun bt303 => ((rec_Join.f k2 (([t301] : List ByteArray)) 5).bind fun bt313 => (if bt303.2.2.2.2.2 = true then (if (bt303.1 == a0_0 && (bt303.2.1 == a0_1 && (bt303.2.2.1 == a0_2 && (bt303.2.2.2.1 == a0_3 && (bt303.2.2.2.2.1 == a0_4))))) = true then (if bt313.2 = true then (some false) else ((armadalaw03_live.f k2).bind fun t315 => (some t315))) else (some false)) else (some false)))) else (if t301.toList = ([] : List UInt8) then ((armadalaw03_live.f k2).bind fun t316 => (some t316)) else (some false))) = some true := H
                    have A42 := Aside0.mk A420
                    clear A420
                    by_cases c43 : t302 = true
                    · subst c43
                      have H1 : ((rec_Read.f k2 t301).bind fun bt303 => ((rec_Join.f k2 (([t301] : List ByteArray)) 5).bind fun bt313 => (if bt303.2.2.2.2.2 = true then (if (bt303.1 == a0_0 && (bt303.2.1 == a0_1 && (bt303.2.2.1 == a0_2 && (bt303.2.2.2.1 == a0_3 && (bt303.2.2.2.2.1 == a0_4))))) = true then (if bt313.2 = true then (some false) else ((armadalaw03_live.f k2).bind fun t315 => (some t315))) else (some false)) else (some false)))) = some true := by rw [if_pos rfl] at H; exact H
                      clear H
                      have H := H1
                      clear H1
                      replace H := Option.bind_eq_some_iff.mp H
                      obtain ⟨⟨t303, t304, t305, t306, t307, t308⟩, A440, H⟩ := H
                      replace H : ((rec_Join.f k2 (([t301] : List ByteArray)) 5).bind fun bt313 => (if t308 = true then (if (t303 == a0_0 && (t304 == a0_1 && (t305 == a0_2 && (t306 == a0_3 && (t307 == a0_4))))) = true then (if bt313.2 = true then (some false) else ((armadalaw03_live.f k2).bind fun t315 => (some t315))) else (some false)) else (some false))) = some true := H
                      have A44 := Aside0.mk A440
                      clear A440
                      obtain ⟨y310, hy310⟩ : ∃ y_ : List ByteArray, y_ = (([t301] : List ByteArray)) := ⟨_, rfl⟩
                      replace H : ((rec_Join.f k2 y310 5).bind fun bt313 => (if t308 = true then (if (t303 == a0_0 && (t304 == a0_1 && (t305 == a0_2 && (t306 == a0_3 && (t307 == a0_4))))) = true then (if bt313.2 = true then (some false) else ((armadalaw03_live.f k2).bind fun t315 => (some t315))) else (some false)) else (some false))) = some true := by first | (rw [hy310]; with_reducible exact H) | (have H2_ := (Option.bind_some _ _).symm.trans H; rw [hy310]; with_reducible exact H2_) | (have H2_ := (Option.bind_some _ _).symm.trans H; with_reducible exact H2_) | with_reducible exact H | (rw [hy310]; exact H) | exact H
                      have Ny310 := Aside0.mk hy310
                      clear hy310
                      replace H := Option.bind_eq_some_iff.mp H
                      obtain ⟨⟨t313, t314⟩, A450, H⟩ := H
                      replace H : (if t308 = true then (if (t303 == a0_0 && (t304 == a0_1 && (t305 == a0_2 && (t306 == a0_3 && (t307 == a0_4))))) = true then (if t314 = true then (some false) else ((armadalaw03_live.f k2).bind fun t315 => (some t315))) else (some false)) else (some false)) = some true := H
                      have A45 := Aside0.mk A450
                      clear A450
                      by_cases c46 : t308 = true
                      · subst c46
                        have H1 : (if (t303 == a0_0 && (t304 == a0_1 && (t305 == a0_2 && (t306 == a0_3 && (t307 == a0_4))))) = true then (if t314 = true then (some false) else ((armadalaw03_live.f k2).bind fun t315 => (some t315))) else (some false)) = some true := by rw [if_pos rfl] at H; exact H
                        clear H
                        have H := H1
                        clear H1
                        by_cases c47 : (t303 == a0_0 && (t304 == a0_1 && (t305 == a0_2 && (t306 == a0_3 && (t307 == a0_4))))) = true
                        · rw [if_pos c47] at H
                          have EQc47 := Aside0.mk (show t303 = a0_0 ∧ t304 = a0_1 ∧ t305 = a0_2 ∧ t306 = a0_3 ∧ t307 = a0_4 from by simpa using c47) -- FIX03
                          have c47b0 : (t303 == a0_0 && (t304 == a0_1 && (t305 == a0_2 && (t306 == a0_3 && (t307 == a0_4))))) = true := c47
                          (try (have c47b1 : decide (t303 = a0_0 && (t304 == a0_1 && (t305 == a0_2 && (t306 == a0_3 && (t307 == a0_4))))) = true := by simpa using c47))
                          (try (have c47b2 : (t303 == a0_0 && (t304 == a0_1 && (t305 == a0_2 && (t306 == a0_3 && (t307 == a0_4))))) = true := by simpa using c47))
                          clear c47
                          by_cases c48 : t314 = true
                          · subst c48
                            have H1 : (some false) = some true := by rw [if_pos rfl] at H; exact H
                            clear H
                            have H := H1
                            clear H1
                            exact absurd H (by simp)
                          · replace c48 := Bool.eq_false_iff.mpr c48
                            subst c48
                            have H1 : ((armadalaw03_live.f k2).bind fun t315 => (some t315)) = some true := by rw [if_neg (show ¬ (false = true) by decide)] at H; exact H
                            clear H
                            have H := H1
                            clear H1
                            replace H := Option.bind_eq_some_iff.mp H
                            obtain ⟨t315, A490, H⟩ := H
                            replace H : (some t315) = some true := H
                            have A49 := Aside0.mk A490
                            clear A490
                            obtain rfl := Option.some.inj H
                            have hcz50_0 : wr.cell? ⟨gb280, 0, none⟩ = some (.int .i64 a0_0) := (blk_cell BK280.out 0).trans rfl
                            have hcz50_1 : wr.cell? ⟨gb280, 1, none⟩ = some (.int .i64 a0_1) := (blk_cell BK280.out 1).trans rfl
                            have hcz50_2 : wr.cell? ⟨gb280, 2, none⟩ = some (.int .i64 a0_2) := (blk_cell BK280.out 2).trans rfl
                            have hcz50_3 : wr.cell? ⟨gb280, 3, none⟩ = some (.int .i64 a0_3) := (blk_cell BK280.out 3).trans rfl
                            have hcz50_4 : wr.cell? ⟨gb280, 4, none⟩ = some (.int .i64 a0_4) := (blk_cell BK280.out 4).trans rfl
                            have hfz50_0 := blk_frozen BK280.out 0
                            have hfz50_1 := blk_frozen BK280.out 1
                            have hfz50_2 := blk_frozen BK280.out 2
                            have hfz50_3 := blk_frozen BK280.out 3
                            have hfz50_4 := blk_frozen BK280.out 4
                            go_wp2_with (first | ((with_reducible refine gate_callee (f := 9) rfl ?_); refine goesL_ (some 107) rfl rfl Try.func9 (by kernel_rfl) rfl #[.agg #[.int .i64 a0_0, .int .i64 a0_1, .int .i64 a0_2, .int .i64 a0_3, .int .i64 a0_4]] rfl (by (try simp only [List.map_toArray, List.map_cons, List.map_nil]); first | done | rfl | (simp only [List.length_drop, List.length_take]; rfl)) ?_; (with_reducible refine (rec_Head_Text.calls k2 a0_0 a0_1 a0_2 a0_3 a0_4 t301 true _ A42.out).mono ?_); rintro e w51 ⟨rfl, hb⟩; refine ⟨_, rfl, ?_⟩; have n0_ := Aside0.mk (Kd.R_below (by (with_reducible repeat (first | apply Kd.R_alloc | apply Kd.R_drewN | apply Kd.R_drew)); exact HO_7.out) hb); have n1_ := Aside0.mk (blk_below (g := gb280) (o := .cells #[.int .i64 a0_0, .int .i64 a0_1, .int .i64 a0_2, .int .i64 a0_3, .int .i64 a0_4] 23 (0, 0)) (by (with_reducible repeat (first | refine blk_drewN ?_ _ | refine blk_drew ?_ | refine blk_alloc ?_ _)); exact BK280.out) hb); have n2_ := Aside0.mk (below_step (by repeat (first | (with_reducible first | exact HB.out | apply below_alloc | apply pw_below_drewN | apply below_drew1 | refine below_set ?_ GE280.out) | exact HB.out)) hb); clear HO_7; clear BK280; clear HB; have HO_7 := n0_; have BK280 := n1_; have HB := n2_; clear n0_ n1_ n2_; (try clear hb); (try clear hb2); (try clear hk); (try clear hi)) | ((with_reducible refine gate_callee (f := 11) rfl ?_); refine goesL_ (some 119) rfl rfl Try.func11 (by kernel_rfl) rfl #[.string t301] rfl (by (try simp only [List.map_toArray, List.map_cons, List.map_nil]); first | done | rfl | (simp only [List.length_drop, List.length_take]; rfl)) ?_; (with_reducible refine (rec_Read.calls k2 t301 t303 t304 t305 t306 t307 true _ A44.out).mono ?_); rintro e w52 ⟨rfl, hb⟩; refine ⟨_, rfl, ?_⟩; have n0_ := Aside0.mk (Kd.R_below (by (with_reducible repeat (first | apply Kd.R_alloc | apply Kd.R_drewN | apply Kd.R_drew)); exact HO_7.out) hb); have n1_ := Aside0.mk (blk_below (g := gb280) (o := .cells #[.int .i64 a0_0, .int .i64 a0_1, .int .i64 a0_2, .int .i64 a0_3, .int .i64 a0_4] 23 (0, 0)) (by (with_reducible repeat (first | refine blk_drewN ?_ _ | refine blk_drew ?_ | refine blk_alloc ?_ _)); exact BK280.out) hb); have n2_ := Aside0.mk (below_step (by repeat (first | (with_reducible first | exact HB.out | apply below_alloc | apply pw_below_drewN | apply below_drew1 | refine below_set ?_ GE280.out) | exact HB.out)) hb); clear HO_7; clear BK280; clear HB; have HO_7 := n0_; have BK280 := n1_; have HB := n2_; clear n0_ n1_ n2_; (try clear hb); (try clear hb2); (try clear hk); (try clear hi)) | ((with_reducible refine gate_dst (N := 17) rfl ?_); (try (refine gate_guard (by rfl) ?_; dsimp only)); refine box_event ?hg (N := 17) ?hd (cs := #[.int .i64 0, .int .i64 0, .int .i64 0, .int .i64 0, .int .i64 0]) (t := 26) ?hr ?_; (case hd => rfl); (case hg => rfl); (case hr => first | (go_simp; done) | (go_simp; rfl)); intro gb309 hg w53 hbox hb; have n0_ := Aside0.mk (Kd.R_below (by (with_reducible repeat (first | apply Kd.R_alloc | apply Kd.R_drewN | apply Kd.R_drew)); exact HO_7.out) hb); have n1_ := Aside0.mk (blk_below (g := gb280) (o := .cells #[.int .i64 a0_0, .int .i64 a0_1, .int .i64 a0_2, .int .i64 a0_3, .int .i64 a0_4] 23 (0, 0)) (by (with_reducible repeat (first | refine blk_drewN ?_ _ | refine blk_drew ?_ | refine blk_alloc ?_ _)); exact BK280.out) hb); have n2_ := Aside0.mk (below_step (by repeat (first | (with_reducible first | exact HB.out | apply below_alloc | apply pw_below_drewN | apply below_drew1 | refine below_set ?_ GE280.out) | exact HB.out)) hb); have n3_ := Aside0.mk (hbox); have n4_ := Aside0.mk ((by rw [hg]; exact (below_size (by repeat (first | (with_reducible first | exact HB.out | apply below_alloc | apply pw_below_drewN | apply below_drew1 | refine below_set ?_ GE280.out) | exact HB.out))) : w.heap.size ≤ gb309)); have n5_ := Aside0.mk ((by rw [hg]; exact (below_size (by repeat (first | (with_reducible first | exact HB.out | apply below_alloc | apply pw_below_drewN | apply below_drew1 | refine below_set ?_ GE280.out) | exact HB.out))) : w.heap.size ≤ gb309)); have n6_ := Aside0.mk ((by rw [hg]; exact Nat.ne_of_lt (blk_lt (g := gb280) (o := .cells #[.int .i64 a0_0, .int .i64 a0_1, .int .i64 a0_2, .int .i64 a0_3, .int .i64 a0_4] 23 (0, 0)) (by (with_reducible repeat (first | refine blk_drewN ?_ _ | refine blk_drew ?_ | refine blk_alloc ?_ _)); exact BK280.out)) : gb280 ≠ gb309)); have n7_ := Aside0.mk ((by rw [hg]; exact Nat.ne_of_gt (blk_lt (g := gb280) (o := .cells #[.int .i64 a0_0, .int .i64 a0_1, .int .i64 a0_2, .int .i64 a0_3, .int .i64 a0_4] 23 (0, 0)) (by (with_reducible repeat (first | refine blk_drewN ?_ _ | refine blk_drew ?_ | refine blk_alloc ?_ _)); exact BK280.out)) : gb309 ≠ gb280)); clear HO_7; clear BK280; clear HB; have HO_7 := n0_; have BK280 := n1_; have HB := n2_; have BK309 := n3_; have GW309 := n4_; have GE309 := n5_; have NB280_309 := n6_; have NB309_280 := n7_; clear n0_ n1_ n2_ n3_ n4_ n5_ n6_ n7_; clear hb hbox hg; have hnb54 := NB309_280.out; have hnc54 := NB280_309.out; have hcz55_0 : w53.cell? ⟨gb309, 0, none⟩ = some (.int .i64 0) := (blk_cell BK309.out 0).trans rfl; have hcz55_1 : w53.cell? ⟨gb309, 1, none⟩ = some (.int .i64 0) := (blk_cell BK309.out 1).trans rfl; have hcz55_2 : w53.cell? ⟨gb309, 2, none⟩ = some (.int .i64 0) := (blk_cell BK309.out 2).trans rfl; have hcz55_3 : w53.cell? ⟨gb309, 3, none⟩ = some (.int .i64 0) := (blk_cell BK309.out 3).trans rfl; have hcz55_4 : w53.cell? ⟨gb309, 4, none⟩ = some (.int .i64 0) := (blk_cell BK309.out 4).trans rfl; have hfz55_0 := blk_frozen BK309.out 0; have hfz55_1 := blk_frozen BK309.out 1; have hfz55_2 := blk_frozen BK309.out 2; have hfz55_3 := blk_frozen BK309.out 3; have hfz55_4 := blk_frozen BK309.out 4) | ((with_reducible refine gate_dst (N := 124) rfl ?_); (try (refine gate_guard (by rfl) ?_; dsimp only)); refine Kd.R_lit Kd.string _ 9 ?hg (N := 124) ?hd (xs := ([t301] : List ByteArray)) (inner := [.string t301]) (ok := fun _ => True) (okp := fun _ => True) ?hr ?hp (fun _ hk => hk) trivial (Below.refl _ _) (Nat.le_refl _) (by simp) ?_; (case hd => rfl); (case hg => rfl); (case hr => first | (go_simp; done) | (go_simp; rfl)); (case hp => exact (Reps.one (show Kd.M Kd.string _ _ _ t301 [.string t301] from rfl) (Reps.none _ _))); intro v311 w56 ho57 hb hg_ hnew_; clear hg_ hnew_; (first | rw [← Ny310.out] at ho57 | (simp only [Int.reduceToNat] at ho57; rw [← Ny310.out] at ho57)); have n0_ := Aside0.mk (Kd.R_elder' (by (with_reducible repeat (first | apply Kd.R_alloc | apply Kd.R_drewN | apply Kd.R_drew)); exact (Kd.R_mono (Kd.R_far (p := ⟨gb309, 4, none⟩) (Kd.R_far (p := ⟨gb309, 3, none⟩) (Kd.R_far (p := ⟨gb309, 2, none⟩) (Kd.R_far (p := ⟨gb309, 1, none⟩) (Kd.R_far (p := ⟨gb309, 0, none⟩) (Kd.R_types HO_7.out BK309.out (by decide)) (fun _ hk => hk.2) (.int .i64 t303)) (fun _ hk => hk.2) (.int .i64 t304)) (fun _ hk => hk.2) (.int .i64 t305)) (fun _ hk => hk.2) (.int .i64 t306)) (fun _ hk => hk.2) (.int .i64 t307)) (fun _ h_ => h_.1))) (Kd.R_base ho57) hb); have n1_ := Aside0.mk (Kd.R_lower (Kd.R_new' ho57 (Kd.R_lt (by (with_reducible repeat (first | apply Kd.R_alloc | apply Kd.R_drewN | apply Kd.R_drew)); exact (Kd.R_mono (Kd.R_far (p := ⟨gb309, 4, none⟩) (Kd.R_far (p := ⟨gb309, 3, none⟩) (Kd.R_far (p := ⟨gb309, 2, none⟩) (Kd.R_far (p := ⟨gb309, 1, none⟩) (Kd.R_far (p := ⟨gb309, 0, none⟩) (Kd.R_types HO_7.out BK309.out (by decide)) (fun _ hk => hk.2) (.int .i64 t303)) (fun _ hk => hk.2) (.int .i64 t304)) (fun _ hk => hk.2) (.int .i64 t305)) (fun _ hk => hk.2) (.int .i64 t306)) (fun _ hk => hk.2) (.int .i64 t307)) (fun _ h_ => h_.1))))) (below_size (by repeat (first | (with_reducible first | exact HB.out | apply below_alloc | apply pw_below_drewN | apply below_drew1 | refine below_set ?_ GE280.out | refine below_set ?_ GE309.out) | exact HB.out)))); have n2_ := Aside0.mk (blk_below (g := gb280) (o := .cells #[.int .i64 a0_0, .int .i64 a0_1, .int .i64 a0_2, .int .i64 a0_3, .int .i64 a0_4] 23 (0, 0)) (by (with_reducible repeat (first | refine blk_drewN ?_ _ | refine blk_drew ?_ | refine blk_alloc ?_ _)); refine blk_far ?_ NB280_309.out _; (with_reducible repeat (first | refine blk_drewN ?_ _ | refine blk_drew ?_ | refine blk_alloc ?_ _)); refine blk_far ?_ NB280_309.out _; (with_reducible repeat (first | refine blk_drewN ?_ _ | refine blk_drew ?_ | refine blk_alloc ?_ _)); refine blk_far ?_ NB280_309.out _; (with_reducible repeat (first | refine blk_drewN ?_ _ | refine blk_drew ?_ | refine blk_alloc ?_ _)); refine blk_far ?_ NB280_309.out _; (with_reducible repeat (first | refine blk_drewN ?_ _ | refine blk_drew ?_ | refine blk_alloc ?_ _)); refine blk_far ?_ NB280_309.out _; (with_reducible repeat (first | refine blk_drewN ?_ _ | refine blk_drew ?_ | refine blk_alloc ?_ _)); exact BK280.out) hb); have n3_ := Aside0.mk (blk_below (g := gb309) (o := .cells #[.int .i64 t303, .int .i64 t304, .int .i64 t305, .int .i64 t306, .int .i64 t307] 26 (0, 0)) (by (with_reducible repeat (first | refine blk_drewN ?_ _ | refine blk_drew ?_ | refine blk_alloc ?_ _)); refine blk_put (cs := #[.int .i64 t303, .int .i64 t304, .int .i64 t305, .int .i64 t306, .int .i64 0]) ?_ 4 _ rfl; (with_reducible repeat (first | refine blk_drewN ?_ _ | refine blk_drew ?_ | refine blk_alloc ?_ _)); refine blk_put (cs := #[.int .i64 t303, .int .i64 t304, .int .i64 t305, .int .i64 0, .int .i64 0]) ?_ 3 _ rfl; (with_reducible repeat (first | refine blk_drewN ?_ _ | refine blk_drew ?_ | refine blk_alloc ?_ _)); refine blk_put (cs := #[.int .i64 t303, .int .i64 t304, .int .i64 0, .int .i64 0, .int .i64 0]) ?_ 2 _ rfl; (with_reducible repeat (first | refine blk_drewN ?_ _ | refine blk_drew ?_ | refine blk_alloc ?_ _)); refine blk_put (cs := #[.int .i64 t303, .int .i64 0, .int .i64 0, .int .i64 0, .int .i64 0]) ?_ 1 _ rfl; (with_reducible repeat (first | refine blk_drewN ?_ _ | refine blk_drew ?_ | refine blk_alloc ?_ _)); refine blk_put (cs := #[.int .i64 0, .int .i64 0, .int .i64 0, .int .i64 0, .int .i64 0]) ?_ 0 _ rfl; (with_reducible repeat (first | refine blk_drewN ?_ _ | refine blk_drew ?_ | refine blk_alloc ?_ _)); exact BK309.out) hb); have n4_ := Aside0.mk (below_step (by repeat (first | (with_reducible first | exact HB.out | apply below_alloc | apply pw_below_drewN | apply below_drew1 | refine below_set ?_ GE280.out | refine below_set ?_ GE309.out) | exact HB.out)) hb); clear HO_7; clear BK280; clear BK309; clear HB; have HO_7 := n0_; have HO312 := n1_; have BK280 := n2_; have BK309 := n3_; have HB := n4_; clear n0_ n1_ n2_ n3_ n4_; clear hb ho57; obtain ⟨Ao58, co58, eo58⟩ := Kd.R_slice HO312.out; subst eo58) | ((with_reducible refine gate_callee (f := 15) rfl ?_); refine goesL_ (some 125) rfl rfl Try.func15 (by kernel_rfl) rfl #[.slice Ao58 y310.length co58, .int .i64 5] rfl (by (try simp only [List.map_toArray, List.map_cons, List.map_nil]); first | done | rfl | (simp only [List.length_drop, List.length_take]; rfl)) ?_; (with_reducible refine (rec_Join.calls k2 _ _ y310 5 t313 false _ ?side1 ?side2 A45.out).mono ?_); (case side1 => repeat (first | exact (Kd.R_reads' HO312.out).2.2 | (with_reducible refine Kd.C_alloc ?_ _) | (with_reducible refine Kd.C_drewN ?_ _) | (with_reducible refine Kd.C_drew ?_))); (case side2 => exact (Kd.R_reads' HO312.out).2.1); rintro e w59 ⟨rfl, hb⟩; refine ⟨_, rfl, ?_⟩; have n0_ := Aside0.mk (Kd.R_below (by (with_reducible repeat (first | apply Kd.R_alloc | apply Kd.R_drewN | apply Kd.R_drew)); exact HO_7.out) hb); have n1_ := Aside0.mk (Kd.R_below (by (with_reducible repeat (first | apply Kd.R_alloc | apply Kd.R_drewN | apply Kd.R_drew)); exact HO312.out) hb); have n2_ := Aside0.mk (blk_below (g := gb280) (o := .cells #[.int .i64 a0_0, .int .i64 a0_1, .int .i64 a0_2, .int .i64 a0_3, .int .i64 a0_4] 23 (0, 0)) (by (with_reducible repeat (first | refine blk_drewN ?_ _ | refine blk_drew ?_ | refine blk_alloc ?_ _)); exact BK280.out) hb); have n3_ := Aside0.mk (blk_below (g := gb309) (o := .cells #[.int .i64 t303, .int .i64 t304, .int .i64 t305, .int .i64 t306, .int .i64 t307] 26 (0, 0)) (by (with_reducible repeat (first | refine blk_drewN ?_ _ | refine blk_drew ?_ | refine blk_alloc ?_ _)); exact BK309.out) hb); have n4_ := Aside0.mk (below_step (by repeat (first | (with_reducible first | exact HB.out | apply below_alloc | apply pw_below_drewN | apply below_drew1 | refine below_set ?_ GE280.out | refine below_set ?_ GE309.out) | exact HB.out)) hb); clear HO_7; clear HO312; clear BK280; clear BK309; clear HB; have HO_7 := n0_; have HO312 := n1_; have BK280 := n2_; have BK309 := n3_; have HB := n4_; clear n0_ n1_ n2_ n3_ n4_; (try clear hb); (try clear hb2); (try clear hk); (try clear hi); have hcz60_0 : w59.cell? ⟨gb309, 0, none⟩ = some (.int .i64 t303) := (blk_cell BK309.out 0).trans rfl; have hcz60_1 : w59.cell? ⟨gb309, 1, none⟩ = some (.int .i64 t304) := (blk_cell BK309.out 1).trans rfl; have hcz60_2 : w59.cell? ⟨gb309, 2, none⟩ = some (.int .i64 t305) := (blk_cell BK309.out 2).trans rfl; have hcz60_3 : w59.cell? ⟨gb309, 3, none⟩ = some (.int .i64 t306) := (blk_cell BK309.out 3).trans rfl; have hcz60_4 : w59.cell? ⟨gb309, 4, none⟩ = some (.int .i64 t307) := (blk_cell BK309.out 4).trans rfl; have hfz60_0 := blk_frozen BK309.out 0; have hfz60_1 := blk_frozen BK309.out 1; have hfz60_2 := blk_frozen BK309.out 2; have hfz60_3 := blk_frozen BK309.out 3; have hfz60_4 := blk_frozen BK309.out 4; have hcz61_0 : w59.cell? ⟨gb280, 0, none⟩ = some (.int .i64 a0_0) := (blk_cell BK280.out 0).trans rfl; have hcz61_1 : w59.cell? ⟨gb280, 1, none⟩ = some (.int .i64 a0_1) := (blk_cell BK280.out 1).trans rfl; have hcz61_2 : w59.cell? ⟨gb280, 2, none⟩ = some (.int .i64 a0_2) := (blk_cell BK280.out 2).trans rfl; have hcz61_3 : w59.cell? ⟨gb280, 3, none⟩ = some (.int .i64 a0_3) := (blk_cell BK280.out 3).trans rfl; have hcz61_4 : w59.cell? ⟨gb280, 4, none⟩ = some (.int .i64 a0_4) := (blk_cell BK280.out 4).trans rfl; have hfz61_0 := blk_frozen BK280.out 0; have hfz61_1 := blk_frozen BK280.out 1; have hfz61_2 := blk_frozen BK280.out 2; have hfz61_3 := blk_frozen BK280.out 3; have hfz61_4 := blk_frozen BK280.out 4) | (go_at_call 8; (with_reducible refine (armadalaw03_live.calls k2  true _ A49.out).mono ?_); rintro e w62 ⟨rfl, hb⟩; have n0_ := Aside0.mk (Kd.R_below (by (with_reducible repeat (first | apply Kd.R_alloc | apply Kd.R_drewN | apply Kd.R_drew)); exact HO_7.out) hb); have n1_ := Aside0.mk (Kd.R_below (by (with_reducible repeat (first | apply Kd.R_alloc | apply Kd.R_drewN | apply Kd.R_drew)); exact HO312.out) hb); have n2_ := Aside0.mk (blk_below (g := gb280) (o := .cells #[.int .i64 a0_0, .int .i64 a0_1, .int .i64 a0_2, .int .i64 a0_3, .int .i64 a0_4] 23 (0, 0)) (by (with_reducible repeat (first | refine blk_drewN ?_ _ | refine blk_drew ?_ | refine blk_alloc ?_ _)); exact BK280.out) hb); have n3_ := Aside0.mk (blk_below (g := gb309) (o := .cells #[.int .i64 t303, .int .i64 t304, .int .i64 t305, .int .i64 t306, .int .i64 t307] 26 (0, 0)) (by (with_reducible repeat (first | refine blk_drewN ?_ _ | refine blk_drew ?_ | refine blk_alloc ?_ _)); exact BK309.out) hb); have n4_ := Aside0.mk (below_step (by repeat (first | (with_reducible first | exact HB.out | apply below_alloc | apply pw_below_drewN | apply below_drew1 | refine below_set ?_ GE280.out | refine below_set ?_ GE309.out) | exact HB.out)) hb); clear HO_7; clear HO312; clear BK280; clear BK309; clear HB; have HO_7 := n0_; have HO312 := n1_; have BK280 := n2_; have BK309 := n3_; have HB := n4_; clear n0_ n1_ n2_ n3_ n4_; (try clear hb); (try clear hb2); (try clear hk); (try clear hi)))
                            all_goals (first | exact absurd EQc47.out.1 (by assumption) | exact absurd EQc47.out.2.1 (by assumption) | exact absurd EQc47.out.2.2.1 (by assumption) | exact absurd EQc47.out.2.2.2.1 (by assumption) | exact absurd EQc47.out.2.2.2.2 (by assumption) | (go_ret; exact ⟨by first | rfl | (simp [errW_none, errW_some] <;> rfl) | (simp [*, errW_none, errW_some] <;> rfl), by repeat (first | (with_reducible first | exact HB.out | apply below_alloc | apply pw_below_drewN | apply below_drew1 | refine below_set ?_ GE280.out | refine below_set ?_ GE309.out) | exact HB.out)⟩)) -- FIX03
                        · rw [if_neg c47] at H
                          have c47b0 : (t303 == a0_0 && (t304 == a0_1 && (t305 == a0_2 && (t306 == a0_3 && (t307 == a0_4))))) = false := by simpa using c47
                          (try (have c47b1 : decide (t303 = a0_0 && (t304 == a0_1 && (t305 == a0_2 && (t306 == a0_3 && (t307 == a0_4))))) = false := by simpa using c47))
                          (try (have c47b2 : (t303 == a0_0 && (t304 == a0_1 && (t305 == a0_2 && (t306 == a0_3 && (t307 == a0_4))))) = false := by simpa using c47))
                          (try (have c47b3 : ¬ (t303 = a0_0 && (t304 == a0_1 && (t305 == a0_2 && (t306 == a0_3 && (t307 == a0_4))))) := by simpa using c47))
                          clear c47
                          exact absurd H (by simp)
                      · replace c46 := Bool.eq_false_iff.mpr c46
                        subst c46
                        have H1 : (some false) = some true := by rw [if_neg (show ¬ (false = true) by decide)] at H; exact H
                        clear H
                        have H := H1
                        clear H1
                        exact absurd H (by simp)
                    · replace c43 := Bool.eq_false_iff.mpr c43
                      subst c43
                      have H1 : (if t301.toList = ([] : List UInt8) then ((armadalaw03_live.f k2).bind fun t316 => (some t316)) else (some false)) = some true := by rw [if_neg (show ¬ (false = true) by decide)] at H; exact H
                      clear H
                      have H := H1
                      clear H1
                      by_cases c63 : t301.toList = ([] : List UInt8)
                      · rw [if_pos c63] at H
                        have c63b0 : (t301.toList == ([] : List UInt8)) = true := beq_iff_eq.mpr c63
                        have c63b1 : (t301.toList != ([] : List UInt8)) = false := bne_eq_false_iff_eq.mpr c63
                        clear c63
                        replace H := Option.bind_eq_some_iff.mp H
                        obtain ⟨t316, A640, H⟩ := H
                        replace H : (some t316) = some true := H
                        have A64 := Aside0.mk A640
                        clear A640
                        obtain rfl := Option.some.inj H
                        have hcz65_0 : wr.cell? ⟨gb280, 0, none⟩ = some (.int .i64 a0_0) := (blk_cell BK280.out 0).trans rfl
                        have hcz65_1 : wr.cell? ⟨gb280, 1, none⟩ = some (.int .i64 a0_1) := (blk_cell BK280.out 1).trans rfl
                        have hcz65_2 : wr.cell? ⟨gb280, 2, none⟩ = some (.int .i64 a0_2) := (blk_cell BK280.out 2).trans rfl
                        have hcz65_3 : wr.cell? ⟨gb280, 3, none⟩ = some (.int .i64 a0_3) := (blk_cell BK280.out 3).trans rfl
                        have hcz65_4 : wr.cell? ⟨gb280, 4, none⟩ = some (.int .i64 a0_4) := (blk_cell BK280.out 4).trans rfl
                        have hfz65_0 := blk_frozen BK280.out 0
                        have hfz65_1 := blk_frozen BK280.out 1
                        have hfz65_2 := blk_frozen BK280.out 2
                        have hfz65_3 := blk_frozen BK280.out 3
                        have hfz65_4 := blk_frozen BK280.out 4
                        go_wp2_with (first | ((with_reducible refine gate_callee (f := 9) rfl ?_); refine goesL_ (some 107) rfl rfl Try.func9 (by kernel_rfl) rfl #[.agg #[.int .i64 a0_0, .int .i64 a0_1, .int .i64 a0_2, .int .i64 a0_3, .int .i64 a0_4]] rfl (by (try simp only [List.map_toArray, List.map_cons, List.map_nil]); first | done | rfl | (simp only [List.length_drop, List.length_take]; rfl)) ?_; (with_reducible refine (rec_Head_Text.calls k2 a0_0 a0_1 a0_2 a0_3 a0_4 t301 false _ A42.out).mono ?_); rintro e w66 ⟨rfl, hb⟩; refine ⟨_, rfl, ?_⟩; have n0_ := Aside0.mk (Kd.R_below (by (with_reducible repeat (first | apply Kd.R_alloc | apply Kd.R_drewN | apply Kd.R_drew)); exact HO_7.out) hb); have n1_ := Aside0.mk (blk_below (g := gb280) (o := .cells #[.int .i64 a0_0, .int .i64 a0_1, .int .i64 a0_2, .int .i64 a0_3, .int .i64 a0_4] 23 (0, 0)) (by (with_reducible repeat (first | refine blk_drewN ?_ _ | refine blk_drew ?_ | refine blk_alloc ?_ _)); exact BK280.out) hb); have n2_ := Aside0.mk (below_step (by repeat (first | (with_reducible first | exact HB.out | apply below_alloc | apply pw_below_drewN | apply below_drew1 | refine below_set ?_ GE280.out) | exact HB.out)) hb); clear HO_7; clear BK280; clear HB; have HO_7 := n0_; have BK280 := n1_; have HB := n2_; clear n0_ n1_ n2_; (try clear hb); (try clear hb2); (try clear hk); (try clear hi)) | (go_at_call 8; (with_reducible refine (armadalaw03_live.calls k2  true _ A64.out).mono ?_); rintro e w67 ⟨rfl, hb⟩; have n0_ := Aside0.mk (Kd.R_below (by (with_reducible repeat (first | apply Kd.R_alloc | apply Kd.R_drewN | apply Kd.R_drew)); exact HO_7.out) hb); have n1_ := Aside0.mk (blk_below (g := gb280) (o := .cells #[.int .i64 a0_0, .int .i64 a0_1, .int .i64 a0_2, .int .i64 a0_3, .int .i64 a0_4] 23 (0, 0)) (by (with_reducible repeat (first | refine blk_drewN ?_ _ | refine blk_drew ?_ | refine blk_alloc ?_ _)); exact BK280.out) hb); have n2_ := Aside0.mk (below_step (by repeat (first | (with_reducible first | exact HB.out | apply below_alloc | apply pw_below_drewN | apply below_drew1 | refine below_set ?_ GE280.out) | exact HB.out)) hb); clear HO_7; clear BK280; clear HB; have HO_7 := n0_; have BK280 := n1_; have HB := n2_; clear n0_ n1_ n2_; (try clear hb); (try clear hb2); (try clear hk); (try clear hi)))
                        go_ret
                        exact ⟨by first | rfl | (simp [errW_none, errW_some] <;> rfl) | (simp [*, errW_none, errW_some] <;> rfl), by repeat (first | (with_reducible first | exact HB.out | apply below_alloc | apply pw_below_drewN | apply below_drew1 | refine below_set ?_ GE280.out) | exact HB.out)⟩
                      · rw [if_neg c63] at H
                        have c63b0 : (t301.toList == ([] : List UInt8)) = false := beq_eq_false_iff_ne.mpr c63
                        have c63b1 : (t301.toList != ([] : List UInt8)) = true := bne_iff_ne.mpr c63
                        exact absurd H (by simp)
      · rw [if_neg c17] at H
        have c17b0 : ((t282.length : Int) == t286) = false := beq_eq_false_iff_ne.mpr c17
        have c17b1 : ((t282.length : Int) != t286) = true := bne_iff_ne.mpr c17
        exact absurd H (by simp)
end Go.Proofs.Ytajgpmeilpjadaa.P
