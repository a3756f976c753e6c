/- Printed functions, merged. -/
import Derived.Test.YtonjofjdmlblfaaDoorZBM0
import Derived.Test.YtonjofjdmlblfaaDoorZBM2
import Derived.Test.YtonjofjdmlblfaaDoorZBXOneW
namespace Go.Proofs.YtonjofjdmlblfaaDoor.P
open Go.RowKit Go.Proofs.YtonjofjdmlblfaaDoorW.PrintWords Go.Proofs.YtonjofjdmlblfaaDoorW.PrintLast Go.Proofs.YtonjofjdmlblfaaDoorW.PrintMore
attribute [local go_sem] max2_int min2_int max_two min_two max_three min_three max_four min_four   -- for this text's walks alone
set_option linter.unusedVariables false
set_option linter.unusedSimpArgs false
def lex_Lines.l0 : Nat → List (S25) → List ByteArray → Int → Int → Option ((List (S25)) × Int × Int)
  | 0, _, _, _, _ => none
  | k + 1, x5, x11, x12, x13 => if x13 < x12 then (if 0 ≤ x13 then (if x13 < (x11.length : Int) then ((lex_One.f (rdOf ByteArray.empty x11 x13)).bind fun bt115 => (if bt115.2.2 = 0 then (if x5.length < 3518437208883 then (lex_Lines.l0 k (x5 ++ [(⟨bt115.1, bt115.2.1⟩ : S25)]) x11 x12 (wrap64 (x13 + 1))) else (none)) else (some (([] : List (S25)), x13, bt115.2.2)))) else (none)) else (none)) else (some (x5, (x5.length : Int), 0))
def lex_Lines.f (k : Nat) (a0 : ByteArray) : Option ((List (S25)) × Int × Int) := (lex_Split.f a0).bind fun t111 => (lex_Lines.l0 k ([] : List (S25)) t111 (t111.length : Int) 0)
theorem lex_Lines.mono_l : ∀ k, (∀ y0 y1 y2 y3, LeO (lex_Lines.l0 k y0 y1 y2 y3) (lex_Lines.l0 (k + 1) y0 y1 y2 y3))
  | 0 => fun _ _ _ _ r h => by simp [lex_Lines.l0] at h
  | k + 1 => by
    have ih0 := lex_Lines.mono_l k
    · intro y0 y1 y2 y3
      unfold lex_Lines.l0
      repeat' first
      | (with_reducible exact ih0 _ _ _ _)
      | (with_reducible exact LeO.refl _)
      | (with_reducible exact LeO.none _)
      | (with_reducible refine LeO.ite ?_ ?_)
      | (with_reducible refine LeO.bind ?_ (fun _ => ?_))
      | exact ih0 _ _ _ _
      | exact LeO.none _
      | refine LeO.ite ?_ ?_
      | refine LeO.bind ?_ (fun _ => ?_)
theorem lex_Lines.mono : ∀ a0 k, LeO (lex_Lines.f k a0) (lex_Lines.f (k + 1) a0) := by
  intro a0 k
  have ih0 := lex_Lines.mono_l k
  unfold lex_Lines.f
  repeat' first
      | (with_reducible exact ih0 _ _ _ _)
      | (with_reducible exact LeO.refl _)
      | (with_reducible exact LeO.none _)
      | (with_reducible refine LeO.ite ?_ ?_)
      | (with_reducible refine LeO.bind ?_ (fun _ => ?_))
      | exact ih0 _ _ _ _
      | exact LeO.none _
      | refine LeO.ite ?_ ?_
      | refine LeO.bind ?_ (fun _ => ?_)
set_option maxHeartbeats 8000000 in
set_option maxRecDepth 100000 in
theorem lex_Lines.calls (k : Nat) (a0 : ByteArray) (r1 : List (S25)) (r2 : Int) (r3 : Int) (w : World) (h : lex_Lines.f k a0 = some (r1, r2, r3)) :
    Calls Tryd.prog 11 #[.string a0] w fun e w' => ∃ v0_ : Value, e = .returned (.tuple #[v0_, .int .i64 r2, .int .i64 r3]) ∧ Kd.S k25 25 w' w.heap.size (fun _ => True) v0_ r1 ∧ Below w.heap.size w w' := by
  have hu25 := Tryd.underlying25
  have HB := Aside0.mk (Below.refl w.heap.size w)
  have H : ((lex_Split.f a0).bind fun t111 => (lex_Lines.l0 k ([] : List (S25)) t111 (t111.length : Int) 0)) = some (r1, r2, r3) := h
  clear h
  replace H := Option.bind_eq_some_iff.mp H
  obtain ⟨t111, A20, H⟩ := H
  replace H : (lex_Lines.l0 k ([] : List (S25)) t111 (t111.length : Int) 0) = some (r1, r2, r3) := H
  have A2 := Aside0.mk A20
  clear A20
  have H' := Aside0.mk H
  clear H
  go_enter Tryd.func11, Tryd.ntmps11
  go_wp2_with (first | ((with_reducible refine gate_callee (f := 16) rfl ?_); refine goesL_ (some 11) rfl rfl Tryd.func16 (by kernel_rfl) rfl #[.string a0] rfl (by (try simp only [List.map_toArray, List.map_cons, List.map_nil]); first | done | rfl | (simp only [List.length_drop, List.length_take]; rfl)) ?_; (with_reducible refine (lex_Split.calls a0 t111 _ A2.out).mono ?_); rintro e w3 ⟨v112, rfl, ho0, hb⟩; refine ⟨_, rfl, ?_⟩; have n0_ := Aside0.mk (Kd.R_lower ho0 (below_size (by repeat (first | (with_reducible first | exact HB.out | apply below_alloc | apply pw_below_drewN | apply below_drew1) | exact HB.out)))); have n1_ := Aside0.mk (below_step (by repeat (first | (with_reducible first | exact HB.out | apply below_alloc | apply pw_below_drewN | apply below_drew1) | exact HB.out)) hb); clear HB; have HO113 := n0_; have HB := n1_; clear n0_ n1_; (try clear hb); (try clear hb2); (try clear hk); (try clear hi); (try clear ho0); obtain ⟨Ao4, co4, eo4⟩ := Kd.R_slice HO113.out; subst eo4))
  go_loopg [5, 13] k (fun kq v5 v13 w' => ∃ (x5_1 : List (S25)) (x13_1 : Int), v13 = .int .i64 x13_1 ∧ Aside0 (lex_Lines.l0 kq x5_1 t111 (t111.length : Int) x13_1 = some (r1, r2, r3)) ∧ Aside0 (kq ≤ k) ∧ Aside0 (Kd.S k25 25 w' w.heap.size (fun _ => True) v5 x5_1) ∧ Aside0 (Kd.R Kd.string 9 w' w.heap.size (fun _ => True) (.slice Ao4 t111.length co4) t111) ∧ Aside0 (Below w.heap.size w w'))
  case atStart => exact ⟨(([] : List (S25))), (0), (by first | rfl | (simp; done) | (simp [*]; done)), H', ⟨Nat.le_refl _⟩, ⟨by first | exact Kd.S_nil _ _ _ _ _ | exact Kd.N_nil _ _ _ _ _ | exact Kd.V_nil _ _ _ _ _ | exact Kd.Q_nil _ _ _ _ _ | exact Kd.R_nil _ _ _ _ _⟩, ⟨by (with_reducible repeat (first | apply Kd.R_alloc | apply Kd.R_drewN | apply Kd.R_drew)); exact HO113.out⟩, ⟨by repeat (first | (with_reducible first | exact HB.out | apply below_alloc | apply pw_below_drewN | apply below_drew1) | exact HB.out)⟩⟩
  case round =>
    clear H'
    try clear c1
    try clear p2
    obtain ⟨x5_1, x13_1, rfl, HA, HK1, HO_5, HO_11, HB⟩ := hrel
    cases gk with
    | zero => exact absurd HA.out (by simp [lex_Lines.l0])
    | succ k1 =>
      have H := HA.out
      clear HA
      simp only [lex_Lines.l0] at H
      by_cases c5 : x13_1 < (t111.length : Int)
      · rw [if_pos c5] at H
        have c5b0 : decide (x13_1 < (t111.length : Int)) = true := decide_eq_true c5
        clear c5
        by_cases c6 : 0 ≤ x13_1
        · rw [if_pos c6] at H
          have c6b0 : decide (0 ≤ x13_1) = true := decide_eq_true c6
          clear c6
          by_cases c7 : x13_1 < (t111.length : Int)
          · rw [if_pos c7] at H
            have c7b0 : decide (x13_1 < (t111.length : Int)) = true := decide_eq_true c7
            clear c7
            replace H := Option.bind_eq_some_iff.mp H
            obtain ⟨⟨t115, t118, t119⟩, A80, H⟩ := H
            replace H : (if t119 = 0 then (if x5_1.length < 3518437208883 then (lex_Lines.l0 k1 (x5_1 ++ [(⟨t115, t118⟩ : S25)]) t111 (t111.length : Int) (wrap64 (x13_1 + 1))) else (none)) else (some (([] : List (S25)), x13_1, t119))) = some (r1, r2, r3) := H
            have A8 := Aside0.mk A80
            clear A80
            by_cases c9 : t119 = 0
            · rw [if_pos c9] at H
              have c9b0 : (t119 == 0) = true := beq_iff_eq.mpr c9
              have c9b1 : (t119 != 0) = false := bne_eq_false_iff_eq.mpr c9
              clear c9
              by_cases c10 : x5_1.length < 3518437208883
              · rw [if_pos c10] at H
                have LMc10 := Aside0.mk c10
                clear c10
                obtain ⟨y121, hy121⟩ : ∃ y_ : List (S25), y_ = (x5_1 ++ [(⟨t115, t118⟩ : S25)]) := ⟨_, rfl⟩
                replace H : (lex_Lines.l0 k1 y121 t111 (t111.length : Int) (wrap64 (x13_1 + 1))) = some (r1, r2, r3) := by first | (rw [hy121]; with_reducible exact H) | (have H2_ := (Option.bind_some _ _).symm.trans H; rw [hy121]; with_reducible exact H2_) | (have H2_ := (Option.bind_some _ _).symm.trans H; with_reducible exact H2_) | with_reducible exact H | (rw [hy121]; exact H) | exact H
                have Ny121 := Aside0.mk hy121
                clear hy121
                have H' := Aside0.mk H
                clear H
                have p114 : 0 ≤ (x13_1 : Int) := of_decide_eq_true (by first | (with_reducible assumption) | assumption)
                have q114 : x13_1 < (t111.length : Int) := of_decide_eq_true (by first | (with_reducible assumption) | assumption)
                obtain ⟨ad114, e114, hx114_0⟩ := Kd.at_string (Kd.R_reads' HO_11.out).2.2 x13_1 p114 q114
                cases e114
                replace p114 := eq_true p114
                replace q114 := eq_true q114
                go_wp2_with (first | ((with_reducible refine gate_callee (f := 9) rfl ?_); refine goesL_ (some 20) rfl rfl Tryd.func9 (by kernel_rfl) rfl #[.string (rdOf ByteArray.empty t111 x13_1)] rfl (by (try simp only [List.map_toArray, List.map_cons, List.map_nil]); first | done | rfl | (simp only [List.length_drop, List.length_take]; rfl)) ?_; (with_reducible refine (lex_One.calls (rdOf ByteArray.empty t111 x13_1) t115 t118 t119 _ A8.out).mono ?_); rintro e w11 ⟨v116, rfl, ho0, hb⟩; refine ⟨_, rfl, ?_⟩; have n0_ := Aside0.mk (Kd.S_elder' (by (with_reducible repeat (first | apply Kd.S_alloc | apply Kd.S_drewN | apply Kd.S_drew)); exact HO_5.out) (Kd.R_base ho0) hb); have n1_ := Aside0.mk (Kd.R_below (by (with_reducible repeat (first | apply Kd.R_alloc | apply Kd.R_drewN | apply Kd.R_drew)); exact HO_11.out) hb); have n2_ := Aside0.mk (Kd.R_lower ho0 (below_size (by repeat (first | (with_reducible first | exact HB.out | apply below_alloc | apply pw_below_drewN | apply below_drew1) | exact HB.out)))); have n3_ := Aside0.mk (below_step (by repeat (first | (with_reducible first | exact HB.out | apply below_alloc | apply pw_below_drewN | apply below_drew1) | exact HB.out)) hb); clear HO_5; clear HO_11; clear HB; have HO_5 := n0_; have HO_11 := n1_; have HO117 := n2_; have HB := n3_; clear n0_ n1_ n2_ n3_; (try clear hb); (try clear hb2); (try clear hk); (try clear hi); (try clear ho0)) | ((with_reducible refine gate_dst (N := 8) rfl ?_); refine box_event ?hg (N := 8) ?hd (cs := #[.slice none 0 0, .string (⟨#[]⟩ : ByteArray)]) (t := 25) ?hr ?_; (case hd => rfl); (case hg => rfl); (case hr => first | (go_simp; done) | (go_simp; rfl)); intro gb120 hg w12 hbox hb; have n0_ := Aside0.mk (Kd.S_below (Kd.S_elderB (by (with_reducible repeat (first | apply Kd.S_alloc | apply Kd.S_drewN | apply Kd.S_drew)); exact HO_5.out) gb120 (Nat.le_of_eq hg.symm)) hb); have n1_ := Aside0.mk (Kd.R_below (by (with_reducible repeat (first | apply Kd.R_alloc | apply Kd.R_drewN | apply Kd.R_drew)); exact HO_11.out) hb); have n2_ := Aside0.mk (Kd.R_below (by (with_reducible repeat (first | apply Kd.R_alloc | apply Kd.R_drewN | apply Kd.R_drew)); exact HO117.out) hb); have n3_ := Aside0.mk (below_step (by repeat (first | (with_reducible first | exact HB.out | apply below_alloc | apply pw_below_drewN | apply below_drew1) | exact HB.out)) hb); have n4_ := Aside0.mk (hbox); have n5_ := Aside0.mk ((by rw [hg]; exact (below_size (by repeat (first | (with_reducible first | exact HB.out | apply below_alloc | apply pw_below_drewN | apply below_drew1) | exact HB.out))) : w.heap.size ≤ gb120)); have n6_ := Aside0.mk ((by rw [hg]; exact (below_size (by repeat (first | (with_reducible first | exact HB.out | apply below_alloc | apply pw_below_drewN | apply below_drew1) | exact HB.out))) : w.heap.size ≤ gb120)); clear HO_5; clear HO_11; clear HO117; clear HB; have HO_5 := n0_; have HO_11 := n1_; have HO117 := n2_; have HB := n3_; have BK120 := n4_; have GW120 := n5_; have GE120 := n6_; clear n0_ n1_ n2_ n3_ n4_ n5_ n6_; clear hb hbox hg; obtain ⟨Ao13, co13, eo13⟩ := Kd.R_slice HO117.out; subst eo13; have hcz14_0 : w12.cell? ⟨gb120, 0, none⟩ = some (.slice none 0 0) := (blk_cell BK120.out 0).trans rfl; have hcz14_1 : w12.cell? ⟨gb120, 1, none⟩ = some (.string (⟨#[]⟩ : ByteArray)) := (blk_cell BK120.out 1).trans rfl; have hfz14_0 := blk_frozen BK120.out 0; have hfz14_1 := blk_frozen BK120.out 1) | ((with_reducible refine gate_store (t := 25) (p := 8) rfl ?_); refine store_event (t := 25) (p := 8) (v := ?vo_w15) (w1 := ((w12.setCell ⟨gb120, 0, none⟩ (.slice Ao13 t115.length co13)).setCell ⟨gb120, 1, none⟩ (.string t118))) ?hg ?ho ?hn ?hr ?_; (case ho => rfl); (case hg => rfl); (case hn => rfl); (case hr => first | (go_simp; done) | (go_simp; rfl)); intro w15 hw; have n0_ : Aside0 (Kd.S k25 25 w15 w.heap.size (fun k_ => some k_ ≠ (.slice Ao13 t115.length co13 : Value).ownBlock ∧ k_ ≠ gb120) u5 x5_1) := ⟨(by rw [hw]; exact (by (with_reducible repeat (first | apply Kd.S_alloc | apply Kd.S_drewN | apply Kd.S_drew)); exact Kd.S_mono (Kd.S_far (p := ⟨gb120, 1, none⟩) (Kd.S_far (p := ⟨gb120, 0, none⟩) (Kd.S_mono HO_5.out (fun k_ hk => (⟨hk, hk.2⟩ : _ ∧ k_ ≠ gb120))) (fun _ hk => hk.2) (.slice Ao13 t115.length co13)) (fun _ hk => hk.2) (.string t118)) (fun _ hk => ⟨hk.1.1.2, hk.1.2⟩)))⟩; have n1_ : Aside0 (Kd.R Kd.string 9 w15 w.heap.size (fun _ => True) (.slice (some ad114) t111.length co4) t111) := ⟨(by rw [hw]; exact (by (with_reducible repeat (first | apply Kd.R_alloc | apply Kd.R_drewN | apply Kd.R_drew)); exact Kd.R_mono (Kd.R_far (p := ⟨gb120, 1, none⟩) (Kd.R_far (p := ⟨gb120, 0, none⟩) (Kd.R_types HO_11.out BK120.out (by decide)) (fun _ hk => hk.2) (.slice Ao13 t115.length co13)) (fun _ hk => hk.2) (.string t118)) (fun _ hk => trivial)))⟩; have n2_ : Aside0 (Kd.R k47 47 w15 w.heap.size (fun _ => True) (.slice Ao13 t115.length co13) t115) := ⟨(by rw [hw]; exact (by (with_reducible repeat (first | apply Kd.R_alloc | apply Kd.R_drewN | apply Kd.R_drew)); exact Kd.R_mono (Kd.R_far (p := ⟨gb120, 1, none⟩) (Kd.R_far (p := ⟨gb120, 0, none⟩) (Kd.R_types HO117.out BK120.out (by decide)) (fun _ hk => hk.2) (.slice Ao13 t115.length co13)) (fun _ hk => hk.2) (.string t118)) (fun _ hk => trivial)))⟩; have n3_ : Aside0 (w15.heap[gb120]? = some (.cells #[.slice Ao13 t115.length co13, .string t118] 25 (0, 0))) := ⟨(by rw [hw]; exact (by (with_reducible repeat (first | refine blk_drewN ?_ _ | refine blk_drew ?_ | refine blk_alloc ?_ _)); refine blk_put (cs := #[.slice Ao13 t115.length co13, .string (⟨#[]⟩ : ByteArray)]) ?_ 1 _ rfl; (with_reducible repeat (first | refine blk_drewN ?_ _ | refine blk_drew ?_ | refine blk_alloc ?_ _)); refine blk_put (cs := #[.slice none 0 0, .string (⟨#[]⟩ : ByteArray)]) ?_ 0 _ rfl; (with_reducible repeat (first | refine blk_drewN ?_ _ | refine blk_drew ?_ | refine blk_alloc ?_ _)); exact BK120.out))⟩; have n4_ : Aside0 (Below w.heap.size w w15) := ⟨(by rw [hw]; exact (by repeat (first | (with_reducible first | exact HB.out | apply below_alloc | apply pw_below_drewN | apply below_drew1 | refine below_set ?_ GE120.out) | exact HB.out)))⟩; clear hw; clear HO_5; clear HO_11; clear HO117; clear BK120; clear HB; have HO_5 := n0_; have HO_11 := n1_; have HO117 := n2_; have BK120 := n3_; have HB := n4_; clear n0_ n1_ n2_ n3_ n4_; have hcz16_0 : w15.cell? ⟨gb120, 0, none⟩ = some (.slice Ao13 t115.length co13) := (blk_cell BK120.out 0).trans rfl; have hcz16_1 : w15.cell? ⟨gb120, 1, none⟩ = some (.string t118) := (blk_cell BK120.out 1).trans rfl; have hfz16_0 := blk_frozen BK120.out 0; have hfz16_1 := blk_frozen BK120.out 1) | ((with_reducible refine gate_builtin (b := .append) (xs := #[.tmp 27, .tmp 29]) rfl ?_); at_builtin; refine Kd.S_append k25 (w0 := w) w.heap.size rfl (.tmp 27) (.tmp 29) 34 25 (.agg #[(.slice none 0 0), (.string ⟨#[]⟩)]) 40 rfl Tryd.underlying34 info25 rfl (by decide) (by omega) u5 x5_1 (⟨t115, t118⟩ : S25) [.slice Ao13 t115.length co13, .string t118] (fun k_ => k_ ≠ gb120) (fun k_ => some k_ = (.slice Ao13 t115.length co13 : Value).ownBlock) rfl rfl ?aP (fun k_ hk_ => ((Kd.R_mono (ok' := fun k_ => ((fun k_ => k_ ≠ gb120)) k_ ∧ some k_ ≠ (u5 : Value).ownBlock) (Kd.R_types (Kd.R_apart' (HO117.out) (Kd.S_typed HO_5.out) (by decide)) BK120.out (by decide)) (fun k_ hk => ⟨hk.2, hk.1.2⟩))).1 k_ hk_.symm) ?aF ?aO ?aB ?aS ?aL ?_; (case aP => exact k25_mkM _ _ _ (⟨t115, t118⟩ : S25) (Kd.R_mono (Kd.R_tight rfl (Kd.R_mono (ok' := fun k_ => ((fun k_ => k_ ≠ gb120)) k_ ∧ some k_ ≠ (u5 : Value).ownBlock) (Kd.R_types (Kd.R_apart' (HO117.out) (Kd.S_typed HO_5.out) (by decide)) BK120.out (by decide)) (fun k_ hk => ⟨hk.2, hk.1.2⟩))) (fun _ h_ => h_))); (case aB => exact (by repeat (first | (with_reducible first | exact HB.out | apply below_alloc | apply pw_below_drewN | apply below_drew1 | refine below_set ?_ GE120.out) | exact HB.out))); (case aF => exact (fun k_ hk => Kd.freshB (g := gb120) (o := .cells #[.slice Ao13 t115.length co13, .string t118] 25 (0, 0)) (by (with_reducible repeat (first | refine blk_drewN ?_ _ | refine blk_drew ?_ | refine blk_alloc ?_ _)); exact BK120.out) k_ hk)); (case aO => exact (by (with_reducible repeat (first | apply Kd.S_alloc | apply Kd.S_drewN | apply Kd.S_drew)); exact Kd.S_mono HO_5.out (fun k_ hk => ⟨hk.2, fun e_ => hk.1 e_⟩))); (case aS => exact (below_size (by repeat (first | (with_reducible first | exact HB.out | apply below_alloc | apply pw_below_drewN | apply below_drew1 | refine below_set ?_ GE120.out) | exact HB.out)))); (case aL => have := LMc10.out; omega); intro v122 w17 ho hb hg hat; rw [← Ny121.out] at ho; have n0_ := Aside0.mk (Kd.R_over' (by (with_reducible repeat (first | apply Kd.R_alloc | apply Kd.R_drewN | apply Kd.R_drew)); exact HO_11.out) (Kd.S_typed (by (with_reducible repeat (first | apply Kd.S_alloc | apply Kd.S_drewN | apply Kd.S_drew)); exact HO_5.out)) (by decide) hg); have n1_ := Aside0.mk (blk_grown (g := gb120) (o := .cells #[.slice Ao13 t115.length co13, .string t118] 25 (0, 0)) (by (with_reducible repeat (first | refine blk_drewN ?_ _ | refine blk_drew ?_ | refine blk_alloc ?_ _)); exact BK120.out) hg (Kd.S_away HO_5.out (fun _ hk => hk.2))); have n2_ := Aside0.mk (hb); have n3_ := Aside0.mk (ho); clear HO_11; clear BK120; clear HB; clear HO_5; clear HO117; have HO_11 := n0_; have BK120 := n1_; have HB := n2_; have HO123 := n3_; clear n0_ n1_ n2_ n3_; clear ho hb hg hat))
                go_roundg k1
                case measure => have := HK1.out; omega
                case rel => exact ⟨(y121), (wrap64 (x13_1 + 1)), (by first | rfl | (simp; done) | (simp [*]; done)), H', ⟨by have := HK1.out; omega⟩, ⟨by (with_reducible repeat (first | apply Kd.S_alloc | apply Kd.S_drewN | apply Kd.S_drew)); exact Kd.S_mono HO123.out (fun _ hk => trivial)⟩, ⟨by (with_reducible repeat (first | apply Kd.R_alloc | apply Kd.R_drewN | apply Kd.R_drew)); exact HO_11.out⟩, ⟨by repeat (first | (with_reducible first | exact HB.out | apply below_alloc | apply pw_below_drewN | apply below_drew1 | refine below_set ?_ GE120.out) | exact HB.out)⟩⟩
              · rw [if_neg c10] at H
                exact absurd H (by simp)
            · rw [if_neg c9] at H
              have c9b0 : (t119 == 0) = false := beq_eq_false_iff_ne.mpr c9
              have c9b1 : (t119 != 0) = true := bne_iff_ne.mpr c9
              simp only [Option.some.injEq, Prod.mk.injEq] at H
              obtain ⟨rfl, rfl, rfl⟩ := H
              have p114 : 0 ≤ (x13_1 : Int) := of_decide_eq_true (by first | (with_reducible assumption) | assumption)
              have q114 : x13_1 < (t111.length : Int) := of_decide_eq_true (by first | (with_reducible assumption) | assumption)
              obtain ⟨ad114, e114, hx114_0⟩ := Kd.at_string (Kd.R_reads' HO_11.out).2.2 x13_1 p114 q114
              cases e114
              replace p114 := eq_true p114
              replace q114 := eq_true q114
              go_wp2_with (first | ((with_reducible refine gate_callee (f := 9) rfl ?_); refine goesL_ (some 20) rfl rfl Tryd.func9 (by kernel_rfl) rfl #[.string (rdOf ByteArray.empty t111 x13_1)] rfl (by (try simp only [List.map_toArray, List.map_cons, List.map_nil]); first | done | rfl | (simp only [List.length_drop, List.length_take]; rfl)) ?_; (with_reducible refine (lex_One.calls (rdOf ByteArray.empty t111 x13_1) t115 t118 t119 _ A8.out).mono ?_); rintro e w18 ⟨v116, rfl, ho0, hb⟩; refine ⟨_, rfl, ?_⟩; have n0_ := Aside0.mk (Kd.S_elder' (by (with_reducible repeat (first | apply Kd.S_alloc | apply Kd.S_drewN | apply Kd.S_drew)); exact HO_5.out) (Kd.R_base ho0) hb); have n1_ := Aside0.mk (Kd.R_below (by (with_reducible repeat (first | apply Kd.R_alloc | apply Kd.R_drewN | apply Kd.R_drew)); exact HO_11.out) hb); have n2_ := Aside0.mk (Kd.R_lower ho0 (below_size (by repeat (first | (with_reducible first | exact HB.out | apply below_alloc | apply pw_below_drewN | apply below_drew1) | exact HB.out)))); have n3_ := Aside0.mk (below_step (by repeat (first | (with_reducible first | exact HB.out | apply below_alloc | apply pw_below_drewN | apply below_drew1) | exact HB.out)) hb); clear HO_5; clear HO_11; clear HB; have HO_5 := n0_; have HO_11 := n1_; have HO117 := n2_; have HB := n3_; clear n0_ n1_ n2_ n3_; (try clear hb); (try clear hb2); (try clear hk); (try clear hi); (try clear ho0)) | ((with_reducible refine gate_dst (N := 8) rfl ?_); refine box_event ?hg (N := 8) ?hd (cs := #[.slice none 0 0, .string (⟨#[]⟩ : ByteArray)]) (t := 25) ?hr ?_; (case hd => rfl); (case hg => rfl); (case hr => first | (go_simp; done) | (go_simp; rfl)); intro gb120 hg w19 hbox hb; have n0_ := Aside0.mk (Kd.S_below (Kd.S_elderB (by (with_reducible repeat (first | apply Kd.S_alloc | apply Kd.S_drewN | apply Kd.S_drew)); exact HO_5.out) gb120 (Nat.le_of_eq hg.symm)) hb); have n1_ := Aside0.mk (Kd.R_below (by (with_reducible repeat (first | apply Kd.R_alloc | apply Kd.R_drewN | apply Kd.R_drew)); exact HO_11.out) hb); have n2_ := Aside0.mk (Kd.R_below (by (with_reducible repeat (first | apply Kd.R_alloc | apply Kd.R_drewN | apply Kd.R_drew)); exact HO117.out) hb); have n3_ := Aside0.mk (below_step (by repeat (first | (with_reducible first | exact HB.out | apply below_alloc | apply pw_below_drewN | apply below_drew1) | exact HB.out)) hb); have n4_ := Aside0.mk (hbox); have n5_ := Aside0.mk ((by rw [hg]; exact (below_size (by repeat (first | (with_reducible first | exact HB.out | apply below_alloc | apply pw_below_drewN | apply below_drew1) | exact HB.out))) : w.heap.size ≤ gb120)); have n6_ := Aside0.mk ((by rw [hg]; exact (below_size (by repeat (first | (with_reducible first | exact HB.out | apply below_alloc | apply pw_below_drewN | apply below_drew1) | exact HB.out))) : w.heap.size ≤ gb120)); clear HO_5; clear HO_11; clear HO117; clear HB; have HO_5 := n0_; have HO_11 := n1_; have HO117 := n2_; have HB := n3_; have BK120 := n4_; have GW120 := n5_; have GE120 := n6_; clear n0_ n1_ n2_ n3_ n4_ n5_ n6_; clear hb hbox hg; obtain ⟨Ao20, co20, eo20⟩ := Kd.R_slice HO117.out; subst eo20; have hcz21_0 : w19.cell? ⟨gb120, 0, none⟩ = some (.slice none 0 0) := (blk_cell BK120.out 0).trans rfl; have hcz21_1 : w19.cell? ⟨gb120, 1, none⟩ = some (.string (⟨#[]⟩ : ByteArray)) := (blk_cell BK120.out 1).trans rfl; have hfz21_0 := blk_frozen BK120.out 0; have hfz21_1 := blk_frozen BK120.out 1))
              go_ret3
              exact ⟨_, by first | rfl | (simp [errW_none, errW_some] <;> rfl) | (simp [*, errW_none, errW_some] <;> rfl), by first | exact Kd.S_nil _ _ _ _ _ | exact Kd.N_nil _ _ _ _ _ | exact Kd.V_nil _ _ _ _ _ | exact Kd.Q_nil _ _ _ _ _ | exact Kd.R_nil _ _ _ _ _, by repeat (first | (with_reducible first | exact HB.out | apply below_alloc | apply pw_below_drewN | apply below_drew1 | refine below_set ?_ GE120.out) | exact HB.out)⟩
          · rw [if_neg c7] at H
            exact absurd H (by simp)
        · rw [if_neg c6] at H
          exact absurd H (by simp)
      · rw [if_neg c5] at H
        have c5b0 : decide (x13_1 < (t111.length : Int)) = false := decide_eq_false c5
        clear c5
        simp only [Option.some.injEq, Prod.mk.injEq] at H
        obtain ⟨rfl, rfl, rfl⟩ := H
        obtain ⟨Ao22, co22, eo22⟩ := Kd.S_slice HO_5.out
        subst eo22
        go_wp2
        go_ret3
        exact ⟨_, by first | rfl | (simp [errW_none, errW_some] <;> rfl) | (simp [*, errW_none, errW_some] <;> rfl), by (with_reducible repeat (first | apply Kd.S_alloc | apply Kd.S_drewN | apply Kd.S_drew)); exact HO_5.out, by repeat (first | (with_reducible first | exact HB.out | apply below_alloc | apply pw_below_drewN | apply below_drew1) | exact HB.out)⟩
section
attribute [local go_sem high] eqA47
def armadalaw09_live.j0 : Nat → Int → Int → List (S25) → Int → Int → Int → Int → Bool → List (S47) → ByteArray → Option (Bool)
  | 0, _, _, _, _, _, _, _, _, _, _ => none
  | k + 1, x2, x4, x5, x6, x7, x9, x10, x45, x132000, x132001 => if x45 = true then (some false) else (if x2 = 0 then (if 2 < (x132000.length : Int) then (if ((((rd_T47 x132000 2).f0).toList) == ([101, 120, 47, 47, 97] : List UInt8) && (((rd_T47 x132000 2).f1) == 8)) = true then (if 3 < (x132000.length : Int) then (if ((rd_T47 x132000 3).f0).toList = ([118, 49] : List UInt8) then (if 1 < (x132000.length : Int) then (if ((rd_T47 x132000 1).f0).toList = ([40] : List UInt8) then (if x132001.toList = ([47, 47, 32, 98] : List UInt8) then (if x4 = 9 then (if x6 = 3 then (if x7 = 0 then (if 2 < (x5.length : Int) then (if 1 < (((rd_T25 x5 2).f0).length : Int) then (if ((((rd_T47 ((rd_T25 x5 2).f0) 1).f0).toList) == ([99] : List UInt8) && (((rd_T47 ((rd_T25 x5 2).f0) 1).f1) == 2)) = true then (if x9 = 1 then (if x10 = 9 then ((lex_Split.f (⟨#[]⟩ : ByteArray)).bind fun t154 => (if (t154.length : Int) = 0 then ((lex_Split.f (⟨#[97, 10, 10, 98]⟩ : ByteArray)).bind fun t157 => ((armadaref03_Same.f k t157 (([(⟨#[97]⟩ : ByteArray), (⟨#[]⟩ : ByteArray), (⟨#[98]⟩ : ByteArray)] : List ByteArray))).bind fun t163 => (some t163))) else (some false))) else (some false)) else (some false)) else (some false)) else (none)) else (none)) else (some false)) else (some false)) else (some false)) else (some false)) else (some false)) else (none)) else (some false)) else (none)) else (some false)) else (none)) else (some false))
def armadalaw09_live.f (k : Nat)  : Option (Bool) := (lex_One.f (⟨#[114, 101, 113, 117, 105, 114, 101, 40, 101, 120, 47, 47, 97, 32, 118, 49, 32, 47, 47, 32, 98]⟩ : ByteArray)).bind fun bt126 => ((lex_One.f (⟨#[97, 1]⟩ : ByteArray)).bind fun bt132 => ((lex_Lines.f k (⟨#[97, 10, 10, 98, 32, 99, 10]⟩ : ByteArray)).bind fun bt138 => ((lex_Lines.f k (⟨#[97, 10, 255]⟩ : ByteArray)).bind fun bt143 => (if (bt126.1.length : Int) = 4 then (if (bt138.1.length : Int) = 3 then (if 2 < (bt138.1.length : Int) then (armadalaw09_live.j0 k bt126.2.2 bt132.2.2 bt138.1 bt138.2.1 bt138.2.2 bt143.2.1 bt143.2.2 ((((rd_T25 bt138.1 2).f0).length : Int) != 2) bt126.1 bt126.2.1) else (none)) else (armadalaw09_live.j0 k bt126.2.2 bt132.2.2 bt138.1 bt138.2.1 bt138.2.2 bt143.2.1 bt143.2.2 true bt126.1 bt126.2.1)) else (armadalaw09_live.j0 k bt126.2.2 bt132.2.2 bt138.1 bt138.2.1 bt138.2.2 bt143.2.1 bt143.2.2 true bt126.1 bt126.2.1)))))
theorem armadalaw09_live.mono_l : ∀ k, (∀ y0 y1 y2 y3 y4 y5 y6 y7 y8 y9, LeO (armadalaw09_live.j0 k y0 y1 y2 y3 y4 y5 y6 y7 y8 y9) (armadalaw09_live.j0 (k + 1) y0 y1 y2 y3 y4 y5 y6 y7 y8 y9))
  | 0 => fun _ _ _ _ _ _ _ _ _ _ r h => by simp [armadalaw09_live.j0] at h
  | k + 1 => by
    have ih0 := armadalaw09_live.mono_l k
    · intro y0 y1 y2 y3 y4 y5 y6 y7 y8 y9
      unfold armadalaw09_live.j0
      repeat' first
      | (with_reducible exact ih0 _ _ _ _ _ _ _ _ _ _)
      | (with_reducible exact armadaref03_Same.mono _ _ _)
      | (with_reducible exact lex_Lines.mono _ _)
      | (with_reducible exact LeO.refl _)
      | (with_reducible exact LeO.none _)
      | (with_reducible refine LeO.ite ?_ ?_)
      | (with_reducible refine LeO.bind ?_ (fun _ => ?_))
      | exact ih0 _ _ _ _ _ _ _ _ _ _
      | exact armadaref03_Same.mono _ _ _
      | exact lex_Lines.mono _ _
      | exact LeO.none _
      | refine LeO.ite ?_ ?_
      | refine LeO.bind ?_ (fun _ => ?_)
theorem armadalaw09_live.mono : ∀ k, LeO (armadalaw09_live.f k ) (armadalaw09_live.f (k + 1) ) := by
  intro  k
  have ih0 := armadalaw09_live.mono_l k
  unfold armadalaw09_live.f
  repeat' first
      | (with_reducible exact ih0 _ _ _ _ _ _ _ _ _ _)
      | (with_reducible exact armadaref03_Same.mono _ _ _)
      | (with_reducible exact lex_Lines.mono _ _)
      | (with_reducible exact LeO.refl _)
      | (with_reducible exact LeO.none _)
      | (with_reducible refine LeO.ite ?_ ?_)
      | (with_reducible refine LeO.bind ?_ (fun _ => ?_))
      | exact ih0 _ _ _ _ _ _ _ _ _ _
      | exact armadaref03_Same.mono _ _ _
      | exact lex_Lines.mono _ _
      | exact LeO.none _
      | refine LeO.ite ?_ ?_
      | refine LeO.bind ?_ (fun _ => ?_)
set_option maxHeartbeats 8000000 in
set_option maxRecDepth 100000 in
theorem armadalaw09_live.calls (k : Nat)  (r : Bool) (w : World) (h : armadalaw09_live.f k  = some r) (hT_ : r = true := by rfl) :
    Calls Tryd.prog 8 #[] w fun e w' => e = .returned (.bool r) ∧ Below w.heap.size w w' := by
  subst hT_
  have hu25 := Tryd.underlying25
  have hu47 := Tryd.underlying47
  have HB := Aside0.mk (Below.refl w.heap.size w)
  have H : ((lex_One.f (⟨#[114, 101, 113, 117, 105, 114, 101, 40, 101, 120, 47, 47, 97, 32, 118, 49, 32, 47, 47, 32, 98]⟩ : ByteArray)).bind fun bt126 => ((lex_One.f (⟨#[97, 1]⟩ : ByteArray)).bind fun bt132 => ((lex_Lines.f k (⟨#[97, 10, 10, 98, 32, 99, 10]⟩ : ByteArray)).bind fun bt138 => ((lex_Lines.f k (⟨#[97, 10, 255]⟩ : ByteArray)).bind fun bt143 => (if (bt126.1.length : Int) = 4 then (if (bt138.1.length : Int) = 3 then (if 2 < (bt138.1.length : Int) then (armadalaw09_live.j0 k bt126.2.2 bt132.2.2 bt138.1 bt138.2.1 bt138.2.2 bt143.2.1 bt143.2.2 ((((rd_T25 bt138.1 2).f0).length : Int) != 2) bt126.1 bt126.2.1) else (none)) else (armadalaw09_live.j0 k bt126.2.2 bt132.2.2 bt138.1 bt138.2.1 bt138.2.2 bt143.2.1 bt143.2.2 true bt126.1 bt126.2.1)) else (armadalaw09_live.j0 k bt126.2.2 bt132.2.2 bt138.1 bt138.2.1 bt138.2.2 bt143.2.1 bt143.2.2 true bt126.1 bt126.2.1)))))) = some true := h
  clear h
  replace H := Option.bind_eq_some_iff.mp H
  obtain ⟨⟨t126, t129, t130⟩, A10, H⟩ := H
  replace H : ((lex_One.f (⟨#[97, 1]⟩ : ByteArray)).bind fun bt132 => ((lex_Lines.f k (⟨#[97, 10, 10, 98, 32, 99, 10]⟩ : ByteArray)).bind fun bt138 => ((lex_Lines.f k (⟨#[97, 10, 255]⟩ : ByteArray)).bind fun bt143 => (if (t126.length : Int) = 4 then (if (bt138.1.length : Int) = 3 then (if 2 < (bt138.1.length : Int) then (armadalaw09_live.j0 k t130 bt132.2.2 bt138.1 bt138.2.1 bt138.2.2 bt143.2.1 bt143.2.2 ((((rd_T25 bt138.1 2).f0).length : Int) != 2) t126 t129) else (none)) else (armadalaw09_live.j0 k t130 bt132.2.2 bt138.1 bt138.2.1 bt138.2.2 bt143.2.1 bt143.2.2 true t126 t129)) else (armadalaw09_live.j0 k t130 bt132.2.2 bt138.1 bt138.2.1 bt138.2.2 bt143.2.1 bt143.2.2 true t126 t129))))) = some true := H
  have A1 := Aside0.mk A10
  clear A10
  replace H := Option.bind_eq_some_iff.mp H
  obtain ⟨⟨t132, t135, t136⟩, A20, H⟩ := H
  replace H : ((lex_Lines.f k (⟨#[97, 10, 10, 98, 32, 99, 10]⟩ : ByteArray)).bind fun bt138 => ((lex_Lines.f k (⟨#[97, 10, 255]⟩ : ByteArray)).bind fun bt143 => (if (t126.length : Int) = 4 then (if (bt138.1.length : Int) = 3 then (if 2 < (bt138.1.length : Int) then (armadalaw09_live.j0 k t130 t136 bt138.1 bt138.2.1 bt138.2.2 bt143.2.1 bt143.2.2 ((((rd_T25 bt138.1 2).f0).length : Int) != 2) t126 t129) else (none)) else (armadalaw09_live.j0 k t130 t136 bt138.1 bt138.2.1 bt138.2.2 bt143.2.1 bt143.2.2 true t126 t129)) else (armadalaw09_live.j0 k t130 t136 bt138.1 bt138.2.1 bt138.2.2 bt143.2.1 bt143.2.2 true t126 t129)))) = some true := H
  have A2 := Aside0.mk A20
  clear A20
  replace H := Option.bind_eq_some_iff.mp H
  obtain ⟨⟨t138, t139, t140⟩, A30, H⟩ := H
  replace H : ((lex_Lines.f k (⟨#[97, 10, 255]⟩ : ByteArray)).bind fun bt143 => (if (t126.length : Int) = 4 then (if (t138.length : Int) = 3 then (if 2 < (t138.length : Int) then (armadalaw09_live.j0 k t130 t136 t138 t139 t140 bt143.2.1 bt143.2.2 ((((rd_T25 t138 2).f0).length : Int) != 2) t126 t129) else (none)) else (armadalaw09_live.j0 k t130 t136 t138 t139 t140 bt143.2.1 bt143.2.2 true t126 t129)) else (armadalaw09_live.j0 k t130 t136 t138 t139 t140 bt143.2.1 bt143.2.2 true t126 t129))) = some true := H
  have A3 := Aside0.mk A30
  clear A30
  replace H := Option.bind_eq_some_iff.mp H
  obtain ⟨⟨t143, t144, t145⟩, A40, H⟩ := H
  replace H : (if (t126.length : Int) = 4 then (if (t138.length : Int) = 3 then (if 2 < (t138.length : Int) then (armadalaw09_live.j0 k t130 t136 t138 t139 t140 t144 t145 ((((rd_T25 t138 2).f0).length : Int) != 2) t126 t129) else (none)) else (armadalaw09_live.j0 k t130 t136 t138 t139 t140 t144 t145 true t126 t129)) else (armadalaw09_live.j0 k t130 t136 t138 t139 t140 t144 t145 true t126 t129)) = some true := H
  have A4 := Aside0.mk A40
  clear A40
  have HC5 := Aside0.mk H
  clear H
  go_enter Tryd.func8, Tryd.ntmps8
  go_upto_region 5 with (first | ((with_reducible refine gate_callee (f := 9) rfl ?_); refine goesL_ (some 12) rfl rfl Tryd.func9 (by kernel_rfl) rfl #[.string (⟨#[114, 101, 113, 117, 105, 114, 101, 40, 101, 120, 47, 47, 97, 32, 118, 49, 32, 47, 47, 32, 98]⟩ : ByteArray)] rfl (by (try simp only [List.map_toArray, List.map_cons, List.map_nil]); first | done | rfl | (simp only [List.length_drop, List.length_take]; rfl)) ?_; (with_reducible refine (lex_One.calls (⟨#[114, 101, 113, 117, 105, 114, 101, 40, 101, 120, 47, 47, 97, 32, 118, 49, 32, 47, 47, 32, 98]⟩ : ByteArray) t126 t129 t130 _ A1.out).mono ?_); rintro e w6 ⟨v127, rfl, ho0, hb⟩; refine ⟨_, rfl, ?_⟩; have n0_ := Aside0.mk (Kd.R_lower ho0 (below_size (by repeat (first | (with_reducible first | exact HB.out | apply below_alloc | apply pw_below_drewN | apply below_drew1) | exact HB.out)))); have n1_ := Aside0.mk (below_step (by repeat (first | (with_reducible first | exact HB.out | apply below_alloc | apply pw_below_drewN | apply below_drew1) | exact HB.out)) hb); clear HB; have HO128 := n0_; have HB := n1_; clear n0_ n1_; (try clear hb); (try clear hb2); (try clear hk); (try clear hi); (try clear ho0)) | ((with_reducible refine gate_dst (N := 1) rfl ?_); (try (refine gate_guard (by rfl) ?_; dsimp only)); refine box_event ?hg (N := 1) ?hd (cs := #[.slice none 0 0, .string (⟨#[]⟩ : ByteArray)]) (t := 25) ?hr ?_; (case hd => rfl); (case hg => rfl); (case hr => first | (go_simp; done) | (go_simp; rfl)); intro gb131 hg w7 hbox hb; have n0_ := Aside0.mk (Kd.R_below (by (with_reducible repeat (first | apply Kd.R_alloc | apply Kd.R_drewN | apply Kd.R_drew)); exact HO128.out) hb); have n1_ := Aside0.mk (below_step (by repeat (first | (with_reducible first | exact HB.out | apply below_alloc | apply pw_below_drewN | apply below_drew1) | exact HB.out)) hb); have n2_ := Aside0.mk (hbox); have n3_ := Aside0.mk ((by rw [hg]; exact (below_size (by repeat (first | (with_reducible first | exact HB.out | apply below_alloc | apply pw_below_drewN | apply below_drew1) | exact HB.out))) : w.heap.size ≤ gb131)); have n4_ := Aside0.mk ((by rw [hg]; exact (below_size (by repeat (first | (with_reducible first | exact HB.out | apply below_alloc | apply pw_below_drewN | apply below_drew1) | exact HB.out))) : w.heap.size ≤ gb131)); clear HO128; clear HB; have HO128 := n0_; have HB := n1_; have BK131 := n2_; have GW131 := n3_; have GE131 := n4_; clear n0_ n1_ n2_ n3_ n4_; clear hb hbox hg; obtain ⟨Ao8, co8, eo8⟩ := Kd.R_slice HO128.out; subst eo8; have hcz9_0 : w7.cell? ⟨gb131, 0, none⟩ = some (.slice none 0 0) := (blk_cell BK131.out 0).trans rfl; have hcz9_1 : w7.cell? ⟨gb131, 1, none⟩ = some (.string (⟨#[]⟩ : ByteArray)) := (blk_cell BK131.out 1).trans rfl; have hfz9_0 := blk_frozen BK131.out 0; have hfz9_1 := blk_frozen BK131.out 1) | ((with_reducible refine gate_callee (f := 9) rfl ?_); refine goesL_ (some 16) rfl rfl Tryd.func9 (by kernel_rfl) rfl #[.string (⟨#[97, 1]⟩ : ByteArray)] rfl (by (try simp only [List.map_toArray, List.map_cons, List.map_nil]); first | done | rfl | (simp only [List.length_drop, List.length_take]; rfl)) ?_; (with_reducible refine (lex_One.calls (⟨#[97, 1]⟩ : ByteArray) t132 t135 t136 _ A2.out).mono ?_); rintro e w10 ⟨v133, rfl, ho0, hb⟩; refine ⟨_, rfl, ?_⟩; have n0_ := Aside0.mk (Kd.R_elder' (by (with_reducible repeat (first | apply Kd.R_alloc | apply Kd.R_drewN | apply Kd.R_drew)); exact (Kd.R_mono (Kd.R_far (p := ⟨gb131, 1, none⟩) (Kd.R_far (p := ⟨gb131, 0, none⟩) (Kd.R_types HO128.out BK131.out (by decide)) (fun _ hk => hk.2) (.slice Ao8 t126.length co8)) (fun _ hk => hk.2) (.string t129)) (fun _ h_ => h_.1))) (Kd.R_base ho0) hb); have n1_ := Aside0.mk (Kd.R_lower (Kd.R_new' ho0 (Kd.R_lt (by (with_reducible repeat (first | apply Kd.R_alloc | apply Kd.R_drewN | apply Kd.R_drew)); exact (Kd.R_mono (Kd.R_far (p := ⟨gb131, 1, none⟩) (Kd.R_far (p := ⟨gb131, 0, none⟩) (Kd.R_types HO128.out BK131.out (by decide)) (fun _ hk => hk.2) (.slice Ao8 t126.length co8)) (fun _ hk => hk.2) (.string t129)) (fun _ h_ => h_.1))))) (below_size (by repeat (first | (with_reducible first | exact HB.out | apply below_alloc | apply pw_below_drewN | apply below_drew1 | refine below_set ?_ GE131.out) | exact HB.out)))); have n2_ := Aside0.mk (blk_below (g := gb131) (o := .cells #[.slice Ao8 t126.length co8, .string t129] 25 (0, 0)) (by (with_reducible repeat (first | refine blk_drewN ?_ _ | refine blk_drew ?_ | refine blk_alloc ?_ _)); refine blk_put (cs := #[.slice Ao8 t126.length co8, .string (⟨#[]⟩ : ByteArray)]) ?_ 1 _ rfl; (with_reducible repeat (first | refine blk_drewN ?_ _ | refine blk_drew ?_ | refine blk_alloc ?_ _)); refine blk_put (cs := #[.slice none 0 0, .string (⟨#[]⟩ : ByteArray)]) ?_ 0 _ rfl; (with_reducible repeat (first | refine blk_drewN ?_ _ | refine blk_drew ?_ | refine blk_alloc ?_ _)); exact BK131.out) hb); have n3_ := Aside0.mk (below_step (by repeat (first | (with_reducible first | exact HB.out | apply below_alloc | apply pw_below_drewN | apply below_drew1 | refine below_set ?_ GE131.out) | exact HB.out)) hb); clear HO128; clear BK131; clear HB; have HO128 := n0_; have HO134 := n1_; have BK131 := n2_; have HB := n3_; clear n0_ n1_ n2_ n3_; (try clear hb); (try clear hb2); (try clear hk); (try clear hi); (try clear ho0)) | ((with_reducible refine gate_dst (N := 3) rfl ?_); (try (refine gate_guard (by rfl) ?_; dsimp only)); refine box_event ?hg (N := 3) ?hd (cs := #[.slice none 0 0, .string (⟨#[]⟩ : ByteArray)]) (t := 25) ?hr ?_; (case hd => rfl); (case hg => rfl); (case hr => first | (go_simp; done) | (go_simp; rfl)); intro gb137 hg w11 hbox hb; have n0_ := Aside0.mk (Kd.R_below (by (with_reducible repeat (first | apply Kd.R_alloc | apply Kd.R_drewN | apply Kd.R_drew)); exact HO128.out) hb); have n1_ := Aside0.mk (Kd.R_below (by (with_reducible repeat (first | apply Kd.R_alloc | apply Kd.R_drewN | apply Kd.R_drew)); exact HO134.out) hb); have n2_ := Aside0.mk (blk_below (g := gb131) (o := .cells #[.slice Ao8 t126.length co8, .string t129] 25 (0, 0)) (by (with_reducible repeat (first | refine blk_drewN ?_ _ | refine blk_drew ?_ | refine blk_alloc ?_ _)); exact BK131.out) hb); have n3_ := Aside0.mk (below_step (by repeat (first | (with_reducible first | exact HB.out | apply below_alloc | apply pw_below_drewN | apply below_drew1 | refine below_set ?_ GE131.out) | exact HB.out)) hb); have n4_ := Aside0.mk (hbox); have n5_ := Aside0.mk ((by rw [hg]; exact (below_size (by repeat (first | (with_reducible first | exact HB.out | apply below_alloc | apply pw_below_drewN | apply below_drew1 | refine below_set ?_ GE131.out) | exact HB.out))) : w.heap.size ≤ gb137)); have n6_ := Aside0.mk ((by rw [hg]; exact (below_size (by repeat (first | (with_reducible first | exact HB.out | apply below_alloc | apply pw_below_drewN | apply below_drew1 | refine below_set ?_ GE131.out) | exact HB.out))) : w.heap.size ≤ gb137)); have n7_ := Aside0.mk ((by rw [hg]; exact Nat.ne_of_lt (blk_lt (g := gb131) (o := .cells #[.slice Ao8 t126.length co8, .string t129] 25 (0, 0)) (by (with_reducible repeat (first | refine blk_drewN ?_ _ | refine blk_drew ?_ | refine blk_alloc ?_ _)); exact BK131.out)) : gb131 ≠ gb137)); have n8_ := Aside0.mk ((by rw [hg]; exact Nat.ne_of_gt (blk_lt (g := gb131) (o := .cells #[.slice Ao8 t126.length co8, .string t129] 25 (0, 0)) (by (with_reducible repeat (first | refine blk_drewN ?_ _ | refine blk_drew ?_ | refine blk_alloc ?_ _)); exact BK131.out)) : gb137 ≠ gb131)); clear HO128; clear HO134; clear BK131; clear HB; have HO128 := n0_; have HO134 := n1_; have BK131 := n2_; have HB := n3_; have BK137 := n4_; have GW137 := n5_; have GE137 := n6_; have NB131_137 := n7_; have NB137_131 := n8_; clear n0_ n1_ n2_ n3_ n4_ n5_ n6_ n7_ n8_; clear hb hbox hg; obtain ⟨Ao12, co12, eo12⟩ := Kd.R_slice HO134.out; subst eo12; have hnb13 := NB137_131.out; have hnc13 := NB131_137.out; have hcz14_0 : w11.cell? ⟨gb137, 0, none⟩ = some (.slice none 0 0) := (blk_cell BK137.out 0).trans rfl; have hcz14_1 : w11.cell? ⟨gb137, 1, none⟩ = some (.string (⟨#[]⟩ : ByteArray)) := (blk_cell BK137.out 1).trans rfl; have hfz14_0 := blk_frozen BK137.out 0; have hfz14_1 := blk_frozen BK137.out 1) | ((with_reducible refine gate_callee (f := 11) rfl ?_); refine goesL_ (some 20) rfl rfl Tryd.func11 (by kernel_rfl) rfl #[.string (⟨#[97, 10, 10, 98, 32, 99, 10]⟩ : ByteArray)] rfl (by (try simp only [List.map_toArray, List.map_cons, List.map_nil]); first | done | rfl | (simp only [List.length_drop, List.length_take]; rfl)) ?_; (with_reducible refine (lex_Lines.calls k (⟨#[97, 10, 10, 98, 32, 99, 10]⟩ : ByteArray) t138 t139 t140 _ A3.out).mono ?_); rintro e w15 ⟨v141, rfl, ho0, hb⟩; refine ⟨_, rfl, ?_⟩; have n0_ := Aside0.mk (Kd.R_below (by (with_reducible repeat (first | apply Kd.R_alloc | apply Kd.R_drewN | apply Kd.R_drew)); exact (Kd.R_mono (Kd.R_far (p := ⟨gb137, 1, none⟩) (Kd.R_far (p := ⟨gb137, 0, none⟩) (Kd.R_types HO128.out BK137.out (by decide)) (fun _ hk => hk.2) (.slice Ao12 t132.length co12)) (fun _ hk => hk.2) (.string t135)) (fun _ h_ => h_.1))) hb); have n1_ := Aside0.mk (Kd.R_below (by (with_reducible repeat (first | apply Kd.R_alloc | apply Kd.R_drewN | apply Kd.R_drew)); exact (Kd.R_mono (Kd.R_far (p := ⟨gb137, 1, none⟩) (Kd.R_far (p := ⟨gb137, 0, none⟩) (Kd.R_types HO134.out BK137.out (by decide)) (fun _ hk => hk.2) (.slice Ao12 t132.length co12)) (fun _ hk => hk.2) (.string t135)) (fun _ h_ => h_.1))) hb); have n2_ := Aside0.mk (Kd.S_lower (Kd.S_newB (Kd.S_newB (Kd.S_new' (Kd.S_new' ho0 (Kd.R_lt (by (with_reducible repeat (first | apply Kd.R_alloc | apply Kd.R_drewN | apply Kd.R_drew)); exact (Kd.R_mono (Kd.R_far (p := ⟨gb137, 1, none⟩) (Kd.R_far (p := ⟨gb137, 0, none⟩) (Kd.R_types HO128.out BK137.out (by decide)) (fun _ hk => hk.2) (.slice Ao12 t132.length co12)) (fun _ hk => hk.2) (.string t135)) (fun _ h_ => h_.1))))) (Kd.R_lt (by (with_reducible repeat (first | apply Kd.R_alloc | apply Kd.R_drewN | apply Kd.R_drew)); exact (Kd.R_mono (Kd.R_far (p := ⟨gb137, 1, none⟩) (Kd.R_far (p := ⟨gb137, 0, none⟩) (Kd.R_types HO134.out BK137.out (by decide)) (fun _ hk => hk.2) (.slice Ao12 t132.length co12)) (fun _ hk => hk.2) (.string t135)) (fun _ h_ => h_.1))))) (g := gb131) (o := .cells #[.slice Ao8 t126.length co8, .string t129] 25 (0, 0)) (by (with_reducible repeat (first | refine blk_drewN ?_ _ | refine blk_drew ?_ | refine blk_alloc ?_ _)); refine blk_far ?_ NB131_137.out _; (with_reducible repeat (first | refine blk_drewN ?_ _ | refine blk_drew ?_ | refine blk_alloc ?_ _)); refine blk_far ?_ NB131_137.out _; (with_reducible repeat (first | refine blk_drewN ?_ _ | refine blk_drew ?_ | refine blk_alloc ?_ _)); exact BK131.out)) (g := gb137) (o := .cells #[.slice Ao12 t132.length co12, .string t135] 25 (0, 0)) (by (with_reducible repeat (first | refine blk_drewN ?_ _ | refine blk_drew ?_ | refine blk_alloc ?_ _)); refine blk_put (cs := #[.slice Ao12 t132.length co12, .string (⟨#[]⟩ : ByteArray)]) ?_ 1 _ rfl; (with_reducible repeat (first | refine blk_drewN ?_ _ | refine blk_drew ?_ | refine blk_alloc ?_ _)); refine blk_put (cs := #[.slice none 0 0, .string (⟨#[]⟩ : ByteArray)]) ?_ 0 _ rfl; (with_reducible repeat (first | refine blk_drewN ?_ _ | refine blk_drew ?_ | refine blk_alloc ?_ _)); exact BK137.out)) (below_size (by repeat (first | (with_reducible first | exact HB.out | apply below_alloc | apply pw_below_drewN | apply below_drew1 | refine below_set ?_ GE131.out | refine below_set ?_ GE137.out) | exact HB.out)))); have n3_ := Aside0.mk (blk_below (g := gb131) (o := .cells #[.slice Ao8 t126.length co8, .string t129] 25 (0, 0)) (by (with_reducible repeat (first | refine blk_drewN ?_ _ | refine blk_drew ?_ | refine blk_alloc ?_ _)); refine blk_far ?_ NB131_137.out _; (with_reducible repeat (first | refine blk_drewN ?_ _ | refine blk_drew ?_ | refine blk_alloc ?_ _)); refine blk_far ?_ NB131_137.out _; (with_reducible repeat (first | refine blk_drewN ?_ _ | refine blk_drew ?_ | refine blk_alloc ?_ _)); exact BK131.out) hb); have n4_ := Aside0.mk (blk_below (g := gb137) (o := .cells #[.slice Ao12 t132.length co12, .string t135] 25 (0, 0)) (by (with_reducible repeat (first | refine blk_drewN ?_ _ | refine blk_drew ?_ | refine blk_alloc ?_ _)); refine blk_put (cs := #[.slice Ao12 t132.length co12, .string (⟨#[]⟩ : ByteArray)]) ?_ 1 _ rfl; (with_reducible repeat (first | refine blk_drewN ?_ _ | refine blk_drew ?_ | refine blk_alloc ?_ _)); refine blk_put (cs := #[.slice none 0 0, .string (⟨#[]⟩ : ByteArray)]) ?_ 0 _ rfl; (with_reducible repeat (first | refine blk_drewN ?_ _ | refine blk_drew ?_ | refine blk_alloc ?_ _)); exact BK137.out) hb); have n5_ := Aside0.mk (below_step (by repeat (first | (with_reducible first | exact HB.out | apply below_alloc | apply pw_below_drewN | apply below_drew1 | refine below_set ?_ GE131.out | refine below_set ?_ GE137.out) | exact HB.out)) hb); clear HO128; clear HO134; clear BK131; clear BK137; clear HB; have HO128 := n0_; have HO134 := n1_; have HO142 := n2_; have BK131 := n3_; have BK137 := n4_; have HB := n5_; clear n0_ n1_ n2_ n3_ n4_ n5_; (try clear hb); (try clear hb2); (try clear hk); (try clear hi); (try clear ho0)) | ((with_reducible refine gate_callee (f := 11) rfl ?_); refine goesL_ (some 25) rfl rfl Tryd.func11 (by kernel_rfl) rfl #[.string (⟨#[97, 10, 255]⟩ : ByteArray)] rfl (by (try simp only [List.map_toArray, List.map_cons, List.map_nil]); first | done | rfl | (simp only [List.length_drop, List.length_take]; rfl)) ?_; (with_reducible refine (lex_Lines.calls k (⟨#[97, 10, 255]⟩ : ByteArray) t143 t144 t145 _ A4.out).mono ?_); rintro e w16 ⟨v146, rfl, ho0, hb⟩; refine ⟨_, rfl, ?_⟩; have n0_ := Aside0.mk (Kd.R_below (by (with_reducible repeat (first | apply Kd.R_alloc | apply Kd.R_drewN | apply Kd.R_drew)); exact HO128.out) hb); have n1_ := Aside0.mk (Kd.R_below (by (with_reducible repeat (first | apply Kd.R_alloc | apply Kd.R_drewN | apply Kd.R_drew)); exact HO134.out) hb); have n2_ := Aside0.mk (Kd.S_elder' (by (with_reducible repeat (first | apply Kd.S_alloc | apply Kd.S_drewN | apply Kd.S_drew)); exact HO142.out) (Kd.S_base ho0) hb); have n3_ := Aside0.mk (Kd.S_lower (Kd.S_newB (Kd.S_newB (Kd.S_new' (Kd.S_new' (Kd.S_new' ho0 (Kd.R_lt (by (with_reducible repeat (first | apply Kd.R_alloc | apply Kd.R_drewN | apply Kd.R_drew)); exact HO128.out))) (Kd.R_lt (by (with_reducible repeat (first | apply Kd.R_alloc | apply Kd.R_drewN | apply Kd.R_drew)); exact HO134.out))) (Kd.S_lt (by (with_reducible repeat (first | apply Kd.S_alloc | apply Kd.S_drewN | apply Kd.S_drew)); exact HO142.out))) (g := gb131) (o := .cells #[.slice Ao8 t126.length co8, .string t129] 25 (0, 0)) (by (with_reducible repeat (first | refine blk_drewN ?_ _ | refine blk_drew ?_ | refine blk_alloc ?_ _)); exact BK131.out)) (g := gb137) (o := .cells #[.slice Ao12 t132.length co12, .string t135] 25 (0, 0)) (by (with_reducible repeat (first | refine blk_drewN ?_ _ | refine blk_drew ?_ | refine blk_alloc ?_ _)); exact BK137.out)) (below_size (by repeat (first | (with_reducible first | exact HB.out | apply below_alloc | apply pw_below_drewN | apply below_drew1 | refine below_set ?_ GE131.out | refine below_set ?_ GE137.out) | exact HB.out)))); have n4_ := Aside0.mk (blk_below (g := gb131) (o := .cells #[.slice Ao8 t126.length co8, .string t129] 25 (0, 0)) (by (with_reducible repeat (first | refine blk_drewN ?_ _ | refine blk_drew ?_ | refine blk_alloc ?_ _)); exact BK131.out) hb); have n5_ := Aside0.mk (blk_below (g := gb137) (o := .cells #[.slice Ao12 t132.length co12, .string t135] 25 (0, 0)) (by (with_reducible repeat (first | refine blk_drewN ?_ _ | refine blk_drew ?_ | refine blk_alloc ?_ _)); exact BK137.out) hb); have n6_ := Aside0.mk (below_step (by repeat (first | (with_reducible first | exact HB.out | apply below_alloc | apply pw_below_drewN | apply below_drew1 | refine below_set ?_ GE131.out | refine below_set ?_ GE137.out) | exact HB.out)) hb); clear HO128; clear HO134; clear HO142; clear BK131; clear BK137; clear HB; have HO128 := n0_; have HO134 := n1_; have HO142 := n2_; have HO147 := n3_; have BK131 := n4_; have BK137 := n5_; have HB := n6_; clear n0_ n1_ n2_ n3_ n4_ n5_ n6_; (try clear hb); (try clear hb2); (try clear hk); (try clear hi); (try clear ho0)))
  (try simp only [Act.put, List.setIfInBounds_toArray, List.set_cons_zero, List.set_cons_succ])
  go_cut [45] (fun v45 wc => ∃ (kq : Nat) (x45_4 : Bool), v45 = .bool x45_4 ∧ Aside0 (armadalaw09_live.j0 kq t130 t136 t138 t139 t140 t144 t145 x45_4 t126 t129 = some true) ∧ Aside0 (kq ≤ k) ∧ Aside0 (Kd.S k25 25 wc w.heap.size (fun k_ => some k_ ≠ ((.slice Ao8 t126.length co8) : Value).ownBlock ∧ some k_ ≠ ((.slice Ao12 t132.length co12) : Value).ownBlock ∧ k_ ≠ gb131 ∧ k_ ≠ gb137) v141 t138) ∧ Aside0 (Kd.R k47 47 wc w.heap.size (fun k_ => some k_ ≠ ((.slice Ao12 t132.length co12) : Value).ownBlock) (.slice Ao8 t126.length co8) t126) ∧ Aside0 (Kd.R k47 47 wc w.heap.size (fun k_ => some k_ ≠ ((.slice Ao8 t126.length co8) : Value).ownBlock) (.slice Ao12 t132.length co12) t132) ∧ Aside0 (wc.heap[gb131]? = some (.cells #[(.slice Ao8 t126.length co8), .string t129] 25 (0, 0))) ∧ Aside0 (wc.heap[gb137]? = some (.cells #[(.slice Ao12 t132.length co12), .string t135] 25 (0, 0))) ∧ Aside0 (Below w.heap.size w wc))
  case first =>
    have H := HC5.out
    clear HC5
    by_cases c17 : (t126.length : Int) = 4
    · rw [if_pos c17] at H
      have c17b0 : ((t126.length : Int) == 4) = true := beq_iff_eq.mpr c17
      have c17b1 : ((t126.length : Int) != 4) = false := bne_eq_false_iff_eq.mpr c17
      clear c17
      (first | rw [c17b0] | (simp only [i64_w, i32_w]; rw [c17b0]) | skip)
      by_cases c18 : (t138.length : Int) = 3
      · rw [if_pos c18] at H
        have c18b0 : ((t138.length : Int) == 3) = true := beq_iff_eq.mpr c18
        have c18b1 : ((t138.length : Int) != 3) = false := bne_eq_false_iff_eq.mpr c18
        clear c18
        by_cases c19 : 2 < (t138.length : Int)
        · rw [if_pos c19] at H
          have c19b0 : decide (2 < (t138.length : Int)) = true := decide_eq_true c19
          have c19b1 : decide (2 < t138.length) = true := decide_eq_true (by omega)
          clear c19
          have H' := Aside0.mk H
          clear H
          have hnb20 := NB131_137.out
          have hnc20 := NB137_131.out
          have hcz21_0 : w16.cell? ⟨gb131, 0, none⟩ = some (.slice Ao8 t126.length co8) := (blk_cell BK131.out 0).trans rfl
          have hcz21_1 : w16.cell? ⟨gb131, 1, none⟩ = some (.string t129) := (blk_cell BK131.out 1).trans rfl
          have hfz21_0 := blk_frozen BK131.out 0
          have hfz21_1 := blk_frozen BK131.out 1
          obtain ⟨Ao22, co22, eo22⟩ := Kd.S_slice HO142.out
          subst eo22
          have p148 : 0 ≤ (2 : Int) := (by omega)
          have q148 : 2 < (t138.length : Int) := of_decide_eq_true (by first | (with_reducible assumption) | assumption)
          obtain ⟨ad148, A148_0, c148_0, e148, hx148_0, hx148_1, hl148_0, hi148_0⟩ := at_T25 (Kd.S_reads' HO142.out).2.2 2 p148 q148
          cases e148
          obtain ⟨ce148, hce148, hMe148, hcc148⟩ := Kd.S_get HO142.out z25 2 p148 (by first | exact q148 | exact of_decide_eq_true (by first | (with_reducible assumption) | assumption) | (have e_ := (Kd.S_reads' HO142.out).1; omega))
          obtain ⟨ve148_0, rfl, ge148_0⟩ := k25_openM hMe148
          have hv148_0 := hcc148 0 _ rfl
          rw [Nat.add_zero] at hv148_0
          replace hv148_0 := Option.some.inj (hv148_0.symm.trans hx148_0)
          rw [hv148_0] at ge148_0
          have HL148_0 := Aside0.mk (show Kd.R k47 47 _ _ _ _ ((rd_T25 t138 2).f0) from ge148_0)
          clear hv148_0 ge148_0
          clear hcc148 hce148
          (try simp only [show (2 : Int).toNat = 2 from rfl, Nat.reduceMul, Nat.reduceEqDiff, Go.Addr.add, ↓reduceIte] at hx148_0)
          (try simp only [show (2 : Int).toNat = 2 from rfl, Nat.reduceMul, Nat.reduceEqDiff, Go.Addr.add, ↓reduceIte] at hx148_1)
          have qi148 : (2 < t138.length) = True := eq_true (by omega)
          (try rw [show ((2 : Int)).toNat = 2 from rfl] at hx148_0)
          (try rw [show 2 * 2 = 4 from rfl] at hx148_0)
          (try rw [show ((2 : Int)).toNat = 2 from rfl] at hx148_1)
          (try rw [show 2 * 2 = 4 from rfl] at hx148_1)
          have HR148_0 := Aside0.mk hi148_0
          have HC148_0 := Aside0.mk hl148_0
          clear hi148_0 hl148_0
          replace p148 := eq_true p148
          replace q148 := eq_true q148
          go_wp2
          go_meet
          case rel => exact ⟨_, (((((rd_T25 t138 2).f0).length : Int) != 2)), (by first | rfl | (simp; done) | (simp [*]; done)), H', ⟨by first | omega | exact Nat.le_refl _⟩, ⟨by (with_reducible repeat (first | apply Kd.S_alloc | apply Kd.S_drewN | apply Kd.S_drew)); exact Kd.S_mono HO142.out (fun _ hk => ⟨hk.1.1.1.1.2, ⟨hk.1.1.1.2, ⟨hk.1.1.2, hk.1.2⟩⟩⟩)⟩, ⟨by (with_reducible repeat (first | apply Kd.R_alloc | apply Kd.R_drewN | apply Kd.R_drew)); exact Kd.R_mono HO128.out (fun _ hk => hk.2)⟩, ⟨by (with_reducible repeat (first | apply Kd.R_alloc | apply Kd.R_drewN | apply Kd.R_drew)); exact Kd.R_mono HO134.out (fun _ hk => hk.2)⟩, ⟨by (with_reducible repeat (first | refine blk_drewN ?_ _ | refine blk_drew ?_ | refine blk_alloc ?_ _)); exact BK131.out⟩, ⟨by (with_reducible repeat (first | refine blk_drewN ?_ _ | refine blk_drew ?_ | refine blk_alloc ?_ _)); exact BK137.out⟩, ⟨by repeat (first | (with_reducible first | exact HB.out | apply below_alloc | apply pw_below_drewN | apply below_drew1 | refine below_set ?_ GE131.out | refine below_set ?_ GE137.out) | exact HB.out)⟩⟩
        · rw [if_neg c19] at H
          exact absurd H (by simp)
      · rw [if_neg c18] at H
        have c18b0 : ((t138.length : Int) == 3) = false := beq_eq_false_iff_ne.mpr c18
        have c18b1 : ((t138.length : Int) != 3) = true := bne_iff_ne.mpr c18
        have H' := Aside0.mk H
        clear H
        have hnb23 := NB131_137.out
        have hnc23 := NB137_131.out
        have hcz24_0 : w16.cell? ⟨gb131, 0, none⟩ = some (.slice Ao8 t126.length co8) := (blk_cell BK131.out 0).trans rfl
        have hcz24_1 : w16.cell? ⟨gb131, 1, none⟩ = some (.string t129) := (blk_cell BK131.out 1).trans rfl
        have hfz24_0 := blk_frozen BK131.out 0
        have hfz24_1 := blk_frozen BK131.out 1
        obtain ⟨Ao25, co25, eo25⟩ := Kd.S_slice HO142.out
        subst eo25
        go_wp2
        go_meet
        case rel => exact ⟨_, (true), (by first | rfl | (simp; done) | (simp [*]; done)), H', ⟨by first | omega | exact Nat.le_refl _⟩, ⟨by (with_reducible repeat (first | apply Kd.S_alloc | apply Kd.S_drewN | apply Kd.S_drew)); exact Kd.S_mono HO142.out (fun _ hk => ⟨hk.1.1.1.1.2, ⟨hk.1.1.1.2, ⟨hk.1.1.2, hk.1.2⟩⟩⟩)⟩, ⟨by (with_reducible repeat (first | apply Kd.R_alloc | apply Kd.R_drewN | apply Kd.R_drew)); exact Kd.R_mono HO128.out (fun _ hk => hk.2)⟩, ⟨by (with_reducible repeat (first | apply Kd.R_alloc | apply Kd.R_drewN | apply Kd.R_drew)); exact Kd.R_mono HO134.out (fun _ hk => hk.2)⟩, ⟨by (with_reducible repeat (first | refine blk_drewN ?_ _ | refine blk_drew ?_ | refine blk_alloc ?_ _)); exact BK131.out⟩, ⟨by (with_reducible repeat (first | refine blk_drewN ?_ _ | refine blk_drew ?_ | refine blk_alloc ?_ _)); exact BK137.out⟩, ⟨by repeat (first | (with_reducible first | exact HB.out | apply below_alloc | apply pw_below_drewN | apply below_drew1 | refine below_set ?_ GE131.out | refine below_set ?_ GE137.out) | exact HB.out)⟩⟩
    · rw [if_neg c17] at H
      have c17b0 : ((t126.length : Int) == 4) = false := beq_eq_false_iff_ne.mpr c17
      have c17b1 : ((t126.length : Int) != 4) = true := bne_iff_ne.mpr c17
      (first | rw [c17b0] | (simp only [i64_w, i32_w]; rw [c17b0]) | skip)
      have H' := Aside0.mk H
      clear H
      have hnb26 := NB131_137.out
      have hnc26 := NB137_131.out
      have hcz27_0 : w16.cell? ⟨gb131, 0, none⟩ = some (.slice Ao8 t126.length co8) := (blk_cell BK131.out 0).trans rfl
      have hcz27_1 : w16.cell? ⟨gb131, 1, none⟩ = some (.string t129) := (blk_cell BK131.out 1).trans rfl
      have hfz27_0 := blk_frozen BK131.out 0
      have hfz27_1 := blk_frozen BK131.out 1
      go_wp2
      go_meet
      case rel => exact ⟨_, (true), (by first | rfl | (simp; done) | (simp [*]; done)), H', ⟨by first | omega | exact Nat.le_refl _⟩, ⟨by (with_reducible repeat (first | apply Kd.S_alloc | apply Kd.S_drewN | apply Kd.S_drew)); exact Kd.S_mono HO142.out (fun _ hk => ⟨hk.1.1.1.1.2, ⟨hk.1.1.1.2, ⟨hk.1.1.2, hk.1.2⟩⟩⟩)⟩, ⟨by (with_reducible repeat (first | apply Kd.R_alloc | apply Kd.R_drewN | apply Kd.R_drew)); exact Kd.R_mono HO128.out (fun _ hk => hk.2)⟩, ⟨by (with_reducible repeat (first | apply Kd.R_alloc | apply Kd.R_drewN | apply Kd.R_drew)); exact Kd.R_mono HO134.out (fun _ hk => hk.2)⟩, ⟨by (with_reducible repeat (first | refine blk_drewN ?_ _ | refine blk_drew ?_ | refine blk_alloc ?_ _)); exact BK131.out⟩, ⟨by (with_reducible repeat (first | refine blk_drewN ?_ _ | refine blk_drew ?_ | refine blk_alloc ?_ _)); exact BK137.out⟩, ⟨by repeat (first | (with_reducible first | exact HB.out | apply below_alloc | apply pw_below_drewN | apply below_drew1 | refine below_set ?_ GE131.out | refine below_set ?_ GE137.out) | exact HB.out)⟩⟩
  case rest =>
    clear HC5
    try clear c1
    try clear p1
    try clear q1
    try clear hx1
    try clear qi1
    try clear c2
    try clear p2
    try clear c8
    try clear c9
    try clear c11
    try clear c13
    try clear c14
    try clear p14
    try clear q14
    try clear hx14
    try clear qi14
    try clear c17
    try clear c17b0
    try clear c17b1
    try clear c18
    try clear c18b0
    try clear c18b1
    try clear c19
    try clear c19b0
    try clear c19b1
    try clear c20
    try clear c23
    try clear c26
    try clear hcz14_0
    try clear hcz14_1
    try clear hcz21_0
    try clear hcz21_1
    try clear hcz24_0
    try clear hcz24_1
    try clear hcz27_0
    try clear hcz27_1
    try clear hcz9_0
    try clear hcz9_1
    try clear hfz14_0
    try clear hfz14_1
    try clear hfz21_0
    try clear hfz21_1
    try clear hfz24_0
    try clear hfz24_1
    try clear hfz27_0
    try clear hfz27_1
    try clear hfz9_0
    try clear hfz9_1
    try clear hx148_0
    try clear hx148_1
    try clear p148
    try clear q148
    obtain ⟨kq, x45_4, rfl, HA, HJ4, HO_5, HO_132000, HO_138000, BK131, BK137, HB⟩ := hcut
    cases kq with
    | zero => exact absurd HA.out (by simp [armadalaw09_live.j0])
    | succ kj4 =>
      have H := HA.out
      clear HA
      simp only [armadalaw09_live.j0] at H
      by_cases c28 : x45_4 = true
      · subst c28
        have H1 : (some false) = some true := by rw [if_pos rfl] at H; exact H
        clear H
        have H := H1
        clear H1
        exact absurd H (by simp)
      · replace c28 := Bool.eq_false_iff.mpr c28
        subst c28
        have H1 : (if t130 = 0 then (if 2 < (t126.length : Int) then (if ((((rd_T47 t126 2).f0).toList) == ([101, 120, 47, 47, 97] : List UInt8) && (((rd_T47 t126 2).f1) == 8)) = true then (if 3 < (t126.length : Int) then (if ((rd_T47 t126 3).f0).toList = ([118, 49] : List UInt8) then (if 1 < (t126.length : Int) then (if ((rd_T47 t126 1).f0).toList = ([40] : List UInt8) then (if t129.toList = ([47, 47, 32, 98] : List UInt8) then (if t136 = 9 then (if t139 = 3 then (if t140 = 0 then (if 2 < (t138.length : Int) then (if 1 < (((rd_T25 t138 2).f0).length : Int) then (if ((((rd_T47 ((rd_T25 t138 2).f0) 1).f0).toList) == ([99] : List UInt8) && (((rd_T47 ((rd_T25 t138 2).f0) 1).f1) == 2)) = true then (if t144 = 1 then (if t145 = 9 then ((lex_Split.f (⟨#[]⟩ : ByteArray)).bind fun t154 => (if (t154.length : Int) = 0 then ((lex_Split.f (⟨#[97, 10, 10, 98]⟩ : ByteArray)).bind fun t157 => ((armadaref03_Same.f kj4 t157 (([(⟨#[97]⟩ : ByteArray), (⟨#[]⟩ : ByteArray), (⟨#[98]⟩ : ByteArray)] : List ByteArray))).bind fun t163 => (some t163))) else (some false))) else (some false)) else (some false)) else (some false)) else (none)) else (none)) else (some false)) else (some false)) else (some false)) else (some false)) else (some false)) else (none)) else (some false)) else (none)) else (some false)) else (none)) else (some false)) = some true := by rw [if_neg (show ¬ (false = true) by decide)] at H; exact H
        clear H
        have H := H1
        clear H1
        by_cases c29 : t130 = 0
        · rw [if_pos c29] at H
          have c29b0 : (t130 == 0) = true := beq_iff_eq.mpr c29
          have c29b1 : (t130 != 0) = false := bne_eq_false_iff_eq.mpr c29
          clear c29
          by_cases c30 : 2 < (t126.length : Int)
          · rw [if_pos c30] at H
            have c30b0 : decide (2 < (t126.length : Int)) = true := decide_eq_true c30
            have c30b1 : decide (2 < t126.length) = true := decide_eq_true (by omega)
            clear c30
            by_cases c31 : ((((rd_T47 t126 2).f0).toList) == ([101, 120, 47, 47, 97] : List UInt8) && (((rd_T47 t126 2).f1) == 8)) = true
            · rw [if_pos c31] at H
              have c31b0 : ((((rd_T47 t126 2).f0).toList) == ([101, 120, 47, 47, 97] : List UInt8) && (((rd_T47 t126 2).f1) == 8)) = true := c31
              (try (have c31b1 : decide ((((rd_T47 t126 2).f0).toList) = ([101, 120, 47, 47, 97] : List UInt8) && (((rd_T47 t126 2).f1) == 8)) = true := by simpa using c31))
              (try (have c31b2 : ((((rd_T47 t126 2).f0).toList) == ([101, 120, 47, 47, 97] : List UInt8) && (((rd_T47 t126 2).f1) == 8)) = true := by simpa using c31))
              clear c31
              by_cases c32 : 3 < (t126.length : Int)
              · rw [if_pos c32] at H
                have c32b0 : decide (3 < (t126.length : Int)) = true := decide_eq_true c32
                have c32b1 : decide (3 < t126.length) = true := decide_eq_true (by omega)
                clear c32
                by_cases c33 : ((rd_T47 t126 3).f0).toList = ([118, 49] : List UInt8)
                · rw [if_pos c33] at H
                  have c33b0 : (((rd_T47 t126 3).f0).toList == ([118, 49] : List UInt8)) = true := beq_iff_eq.mpr c33
                  have c33b1 : (((rd_T47 t126 3).f0).toList != ([118, 49] : List UInt8)) = false := bne_eq_false_iff_eq.mpr c33
                  clear c33
                  by_cases c34 : 1 < (t126.length : Int)
                  · rw [if_pos c34] at H
                    have c34b0 : decide (1 < (t126.length : Int)) = true := decide_eq_true c34
                    have c34b1 : decide (1 < t126.length) = true := decide_eq_true (by omega)
                    clear c34
                    by_cases c35 : ((rd_T47 t126 1).f0).toList = ([40] : List UInt8)
                    · rw [if_pos c35] at H
                      have c35b0 : (((rd_T47 t126 1).f0).toList == ([40] : List UInt8)) = true := beq_iff_eq.mpr c35
                      have c35b1 : (((rd_T47 t126 1).f0).toList != ([40] : List UInt8)) = false := bne_eq_false_iff_eq.mpr c35
                      clear c35
                      by_cases c36 : t129.toList = ([47, 47, 32, 98] : List UInt8)
                      · rw [if_pos c36] at H
                        have c36b0 : (t129.toList == ([47, 47, 32, 98] : List UInt8)) = true := beq_iff_eq.mpr c36
                        have c36b1 : (t129.toList != ([47, 47, 32, 98] : List UInt8)) = false := bne_eq_false_iff_eq.mpr c36
                        clear c36
                        by_cases c37 : t136 = 9
                        · rw [if_pos c37] at H
                          have c37b0 : (t136 == 9) = true := beq_iff_eq.mpr c37
                          have c37b1 : (t136 != 9) = false := bne_eq_false_iff_eq.mpr c37
                          clear c37
                          by_cases c38 : t139 = 3
                          · rw [if_pos c38] at H
                            have c38b0 : (t139 == 3) = true := beq_iff_eq.mpr c38
                            have c38b1 : (t139 != 3) = false := bne_eq_false_iff_eq.mpr c38
                            clear c38
                            by_cases c39 : t140 = 0
                            · rw [if_pos c39] at H
                              have c39b0 : (t140 == 0) = true := beq_iff_eq.mpr c39
                              have c39b1 : (t140 != 0) = false := bne_eq_false_iff_eq.mpr c39
                              clear c39
                              by_cases c40 : 2 < (t138.length : Int)
                              · rw [if_pos c40] at H
                                have c40b0 : decide (2 < (t138.length : Int)) = true := decide_eq_true c40
                                have c40b1 : decide (2 < t138.length) = true := decide_eq_true (by omega)
                                clear c40
                                by_cases c41 : 1 < (((rd_T25 t138 2).f0).length : Int)
                                · rw [if_pos c41] at H
                                  have c41b0 : decide (1 < (((rd_T25 t138 2).f0).length : Int)) = true := decide_eq_true c41
                                  have c41b1 : decide (1 < ((rd_T25 t138 2).f0).length) = true := decide_eq_true (by omega)
                                  clear c41
                                  by_cases c42 : ((((rd_T47 ((rd_T25 t138 2).f0) 1).f0).toList) == ([99] : List UInt8) && (((rd_T47 ((rd_T25 t138 2).f0) 1).f1) == 2)) = true
                                  · rw [if_pos c42] at H
                                    have c42b0 : ((((rd_T47 ((rd_T25 t138 2).f0) 1).f0).toList) == ([99] : List UInt8) && (((rd_T47 ((rd_T25 t138 2).f0) 1).f1) == 2)) = true := c42
                                    (try (have c42b1 : decide ((((rd_T47 ((rd_T25 t138 2).f0) 1).f0).toList) = ([99] : List UInt8) && (((rd_T47 ((rd_T25 t138 2).f0) 1).f1) == 2)) = true := by simpa using c42))
                                    (try (have c42b2 : ((((rd_T47 ((rd_T25 t138 2).f0) 1).f0).toList) == ([99] : List UInt8) && (((rd_T47 ((rd_T25 t138 2).f0) 1).f1) == 2)) = true := by simpa using c42))
                                    clear c42
                                    by_cases c43 : t144 = 1
                                    · rw [if_pos c43] at H
                                      have c43b0 : (t144 == 1) = true := beq_iff_eq.mpr c43
                                      have c43b1 : (t144 != 1) = false := bne_eq_false_iff_eq.mpr c43
                                      clear c43
                                      by_cases c44 : t145 = 9
                                      · rw [if_pos c44] at H
                                        have c44b0 : (t145 == 9) = true := beq_iff_eq.mpr c44
                                        have c44b1 : (t145 != 9) = false := bne_eq_false_iff_eq.mpr c44
                                        clear c44
                                        replace H := Option.bind_eq_some_iff.mp H
                                        obtain ⟨t154, A450, H⟩ := H
                                        replace H : (if (t154.length : Int) = 0 then ((lex_Split.f (⟨#[97, 10, 10, 98]⟩ : ByteArray)).bind fun t157 => ((armadaref03_Same.f kj4 t157 (([(⟨#[97]⟩ : ByteArray), (⟨#[]⟩ : ByteArray), (⟨#[98]⟩ : ByteArray)] : List ByteArray))).bind fun t163 => (some t163))) else (some false)) = some true := H
                                        have A45 := Aside0.mk A450
                                        clear A450
                                        by_cases c46 : (t154.length : Int) = 0
                                        · rw [if_pos c46] at H
                                          have c46b0 : ((t154.length : Int) == 0) = true := beq_iff_eq.mpr c46
                                          have c46b1 : ((t154.length : Int) != 0) = false := bne_eq_false_iff_eq.mpr c46
                                          clear c46
                                          replace H := Option.bind_eq_some_iff.mp H
                                          obtain ⟨t157, A470, H⟩ := H
                                          replace H : ((armadaref03_Same.f kj4 t157 (([(⟨#[97]⟩ : ByteArray), (⟨#[]⟩ : ByteArray), (⟨#[98]⟩ : ByteArray)] : List ByteArray))).bind fun t163 => (some t163)) = some true := H
                                          have A47 := Aside0.mk A470
                                          clear A470
                                          obtain ⟨y160, hy160⟩ : ∃ y_ : List ByteArray, y_ = (([(⟨#[97]⟩ : ByteArray), (⟨#[]⟩ : ByteArray), (⟨#[98]⟩ : ByteArray)] : List ByteArray)) := ⟨_, rfl⟩
                                          replace H : ((armadaref03_Same.f kj4 t157 y160).bind fun t163 => (some t163)) = some true := by first | (rw [hy160]; with_reducible exact H) | (have H2_ := (Option.bind_some _ _).symm.trans H; rw [hy160]; with_reducible exact H2_) | (have H2_ := (Option.bind_some _ _).symm.trans H; with_reducible exact H2_) | with_reducible exact H | (rw [hy160]; exact H) | exact H
                                          have Ny160 := Aside0.mk hy160
                                          clear hy160
                                          replace H := Option.bind_eq_some_iff.mp H
                                          obtain ⟨t163, A480, H⟩ := H
                                          replace H : (some t163) = some true := H
                                          have A48 := Aside0.mk A480
                                          clear A480
                                          obtain rfl := Option.some.inj H
                                          have hnb49 := NB131_137.out
                                          have hnc49 := NB137_131.out
                                          have hcz50_0 : wc.cell? ⟨gb131, 0, none⟩ = some (.slice Ao8 t126.length co8) := (blk_cell BK131.out 0).trans rfl
                                          have hcz50_1 : wc.cell? ⟨gb131, 1, none⟩ = some (.string t129) := (blk_cell BK131.out 1).trans rfl
                                          have hfz50_0 := blk_frozen BK131.out 0
                                          have hfz50_1 := blk_frozen BK131.out 1
                                          have p149 : 0 ≤ (2 : Int) := (by omega)
                                          have q149 : 2 < (t126.length : Int) := of_decide_eq_true (by first | (with_reducible assumption) | assumption)
                                          obtain ⟨ad149, e149, hx149_0, hx149_1⟩ := at_T47 (Kd.R_reads' HO_132000.out).2.2 2 p149 q149
                                          cases e149
                                          (try simp only [show (2 : Int).toNat = 2 from rfl, Nat.reduceMul, Nat.reduceEqDiff, Go.Addr.add, ↓reduceIte] at hx149_0)
                                          (try simp only [show (2 : Int).toNat = 2 from rfl, Nat.reduceMul, Nat.reduceEqDiff, Go.Addr.add, ↓reduceIte] at hx149_1)
                                          have qi149 : (2 < t126.length) = True := eq_true (by omega)
                                          (try rw [show ((2 : Int)).toNat = 2 from rfl] at hx149_0)
                                          (try rw [show 2 * 2 = 4 from rfl] at hx149_0)
                                          (try rw [show ((2 : Int)).toNat = 2 from rfl] at hx149_1)
                                          (try rw [show 2 * 2 = 4 from rfl] at hx149_1)
                                          replace p149 := eq_true p149
                                          replace q149 := eq_true q149
                                          have p150 : 0 ≤ (3 : Int) := (by omega)
                                          have q150 : 3 < (t126.length : Int) := of_decide_eq_true (by first | (with_reducible assumption) | assumption)
                                          obtain ⟨ad150, e150, hx150_0, hx150_1⟩ := at_T47 (Kd.R_reads' HO_132000.out).2.2 3 p150 q150
                                          obtain rfl : ad149 = ad150 := (by injection e150)
                                          (try simp only [show (3 : Int).toNat = 3 from rfl, Nat.reduceMul, Nat.reduceEqDiff, Go.Addr.add, ↓reduceIte] at hx150_0)
                                          (try simp only [show (3 : Int).toNat = 3 from rfl, Nat.reduceMul, Nat.reduceEqDiff, Go.Addr.add, ↓reduceIte] at hx150_1)
                                          have qi150 : (3 < t126.length) = True := eq_true (by omega)
                                          (try rw [show ((3 : Int)).toNat = 3 from rfl] at hx150_0)
                                          (try rw [show 3 * 2 = 6 from rfl] at hx150_0)
                                          (try rw [show ((3 : Int)).toNat = 3 from rfl] at hx150_1)
                                          (try rw [show 3 * 2 = 6 from rfl] at hx150_1)
                                          replace p150 := eq_true p150
                                          replace q150 := eq_true q150
                                          have p151 : 0 ≤ (1 : Int) := (by omega)
                                          have q151 : 1 < (t126.length : Int) := of_decide_eq_true (by first | (with_reducible assumption) | assumption)
                                          obtain ⟨ad151, e151, hx151_0, hx151_1⟩ := at_T47 (Kd.R_reads' HO_132000.out).2.2 1 p151 q151
                                          obtain rfl : ad149 = ad151 := (by injection e151)
                                          (try simp only [show (1 : Int).toNat = 1 from rfl, Nat.reduceMul, Nat.reduceEqDiff, Go.Addr.add, ↓reduceIte] at hx151_0)
                                          (try simp only [show (1 : Int).toNat = 1 from rfl, Nat.reduceMul, Nat.reduceEqDiff, Go.Addr.add, ↓reduceIte] at hx151_1)
                                          have qi151 : (1 < t126.length) = True := eq_true (by omega)
                                          (try rw [show ((1 : Int)).toNat = 1 from rfl] at hx151_0)
                                          (try rw [show 1 * 2 = 2 from rfl] at hx151_0)
                                          (try rw [show ((1 : Int)).toNat = 1 from rfl] at hx151_1)
                                          (try rw [show 1 * 2 = 2 from rfl] at hx151_1)
                                          replace p151 := eq_true p151
                                          replace q151 := eq_true q151
                                          obtain ⟨Ao51, co51, eo51⟩ := Kd.S_slice HO_5.out
                                          subst eo51
                                          have p152 : 0 ≤ (2 : Int) := (by omega)
                                          have q152 : 2 < (t138.length : Int) := of_decide_eq_true (by first | (with_reducible assumption) | assumption)
                                          obtain ⟨ad152, A152_0, c152_0, e152, hx152_0, hx152_1, hl152_0, hi152_0⟩ := at_T25 (Kd.S_reads' HO_5.out).2.2 2 p152 q152
                                          cases e152
                                          obtain ⟨ce152, hce152, hMe152, hcc152⟩ := Kd.S_get HO_5.out z25 2 p152 (by first | exact q152 | exact of_decide_eq_true (by first | (with_reducible assumption) | assumption) | (have e_ := (Kd.S_reads' HO_5.out).1; omega))
                                          obtain ⟨ve152_0, rfl, ge152_0⟩ := k25_openM hMe152
                                          have hv152_0 := hcc152 0 _ rfl
                                          rw [Nat.add_zero] at hv152_0
                                          replace hv152_0 := Option.some.inj (hv152_0.symm.trans hx152_0)
                                          rw [hv152_0] at ge152_0
                                          have HL152_0 := Aside0.mk (show Kd.R k47 47 _ _ _ _ ((rd_T25 t138 2).f0) from ge152_0)
                                          clear hv152_0 ge152_0
                                          clear hcc152 hce152
                                          (try simp only [show (2 : Int).toNat = 2 from rfl, Nat.reduceMul, Nat.reduceEqDiff, Go.Addr.add, ↓reduceIte] at hx152_0)
                                          (try simp only [show (2 : Int).toNat = 2 from rfl, Nat.reduceMul, Nat.reduceEqDiff, Go.Addr.add, ↓reduceIte] at hx152_1)
                                          have qi152 : (2 < t138.length) = True := eq_true (by omega)
                                          (try rw [show ((2 : Int)).toNat = 2 from rfl] at hx152_0)
                                          (try rw [show 2 * 2 = 4 from rfl] at hx152_0)
                                          (try rw [show ((2 : Int)).toNat = 2 from rfl] at hx152_1)
                                          (try rw [show 2 * 2 = 4 from rfl] at hx152_1)
                                          have HR152_0 := Aside0.mk hi152_0
                                          have HC152_0 := Aside0.mk hl152_0
                                          clear hi152_0 hl152_0
                                          replace p152 := eq_true p152
                                          replace q152 := eq_true q152
                                          have p153 : 0 ≤ (1 : Int) := (by omega)
                                          have q153 : 1 < (((rd_T25 t138 2).f0).length : Int) := of_decide_eq_true (by first | (with_reducible assumption) | assumption)
                                          obtain ⟨ad153, e153, hx153_0, hx153_1⟩ := at_T47 (by repeat (first | (with_reducible exact HR152_0.out) | (with_reducible refine Kd.C_alloc ?_ _) | (with_reducible refine Kd.C_drewN ?_ _) | (with_reducible refine Kd.C_drew ?_) | exact HR152_0.out)) 1 p153 q153
                                          cases e153
                                          (try simp only [show (1 : Int).toNat = 1 from rfl, Nat.reduceMul, Nat.reduceEqDiff, Go.Addr.add, ↓reduceIte] at hx153_0)
                                          (try simp only [show (1 : Int).toNat = 1 from rfl, Nat.reduceMul, Nat.reduceEqDiff, Go.Addr.add, ↓reduceIte] at hx153_1)
                                          have qi153 : (1 < ((rd_T25 t138 2).f0).length) = True := eq_true (by omega)
                                          (try rw [show ((1 : Int)).toNat = 1 from rfl] at hx153_0)
                                          (try rw [show 1 * 2 = 2 from rfl] at hx153_0)
                                          (try rw [show ((1 : Int)).toNat = 1 from rfl] at hx153_1)
                                          (try rw [show 1 * 2 = 2 from rfl] at hx153_1)
                                          replace p153 := eq_true p153
                                          replace q153 := eq_true q153
                                          go_wp2_with (first | (go_at_call 16; (with_reducible refine (lex_Split.calls (⟨#[]⟩ : ByteArray) t154 _ A45.out).mono ?_); rintro e w52 ⟨v155, rfl, ho0, hb⟩; have n0_ := Aside0.mk (Kd.S_below (by (with_reducible repeat (first | apply Kd.S_alloc | apply Kd.S_drewN | apply Kd.S_drew)); exact HO_5.out) hb); have n1_ := Aside0.mk (Kd.R_below (by (with_reducible repeat (first | apply Kd.R_alloc | apply Kd.R_drewN | apply Kd.R_drew)); exact HO_132000.out) hb); have n2_ := Aside0.mk (Kd.R_below (by (with_reducible repeat (first | apply Kd.R_alloc | apply Kd.R_drewN | apply Kd.R_drew)); exact HO_138000.out) hb); have n3_ := Aside0.mk (Kd.R_below (by (with_reducible repeat (first | apply Kd.R_alloc | apply Kd.R_drewN | apply Kd.R_drew)); exact HL152_0.out) hb); have n4_ := Aside0.mk (Kd.R_lower ho0 (below_size (by repeat (first | (with_reducible first | exact HB.out | apply below_alloc | apply pw_below_drewN | apply below_drew1 | refine below_set ?_ GE131.out | refine below_set ?_ GE137.out) | exact HB.out)))); have n5_ := Aside0.mk (blk_below (g := gb131) (o := .cells #[.slice (some ad149) t126.length co8, .string t129] 25 (0, 0)) (by (with_reducible repeat (first | refine blk_drewN ?_ _ | refine blk_drew ?_ | refine blk_alloc ?_ _)); exact BK131.out) hb); have n6_ := Aside0.mk (blk_below (g := gb137) (o := .cells #[.slice Ao12 t132.length co12, .string t135] 25 (0, 0)) (by (with_reducible repeat (first | refine blk_drewN ?_ _ | refine blk_drew ?_ | refine blk_alloc ?_ _)); exact BK137.out) hb); have n7_ := Aside0.mk (Kd.C_below (by repeat (first | (with_reducible exact HR152_0.out) | (with_reducible refine Kd.C_alloc ?_ _) | (with_reducible refine Kd.C_drewN ?_ _) | (with_reducible refine Kd.C_drew ?_) | exact HR152_0.out)) hb); have n8_ := Aside0.mk (below_step (by repeat (first | (with_reducible first | exact HB.out | apply below_alloc | apply pw_below_drewN | apply below_drew1 | refine below_set ?_ GE131.out | refine below_set ?_ GE137.out) | exact HB.out)) hb); clear HO_5; clear HO_132000; clear HO_138000; clear HL152_0; clear BK131; clear BK137; clear HR152_0; clear HB; have HO_5 := n0_; have HO_132000 := n1_; have HO_138000 := n2_; have HL152_0 := n3_; have HO156 := n4_; have BK131 := n5_; have BK137 := n6_; have HR152_0 := n7_; have HB := n8_; clear n0_ n1_ n2_ n3_ n4_ n5_ n6_ n7_ n8_; (try clear hb); (try clear hb2); (try clear hk); (try clear hi); (try clear ho0); obtain ⟨Ao53, co53, eo53⟩ := Kd.R_slice HO156.out; subst eo53) | (go_at_call 16; (with_reducible refine (lex_Split.calls (⟨#[97, 10, 10, 98]⟩ : ByteArray) t157 _ A47.out).mono ?_); rintro e w54 ⟨v158, rfl, ho0, hb⟩; have n0_ := Aside0.mk (Kd.S_below (by (with_reducible repeat (first | apply Kd.S_alloc | apply Kd.S_drewN | apply Kd.S_drew)); exact HO_5.out) hb); have n1_ := Aside0.mk (Kd.R_below (by (with_reducible repeat (first | apply Kd.R_alloc | apply Kd.R_drewN | apply Kd.R_drew)); exact HO_132000.out) hb); have n2_ := Aside0.mk (Kd.R_below (by (with_reducible repeat (first | apply Kd.R_alloc | apply Kd.R_drewN | apply Kd.R_drew)); exact HO_138000.out) hb); have n3_ := Aside0.mk (Kd.R_below (by (with_reducible repeat (first | apply Kd.R_alloc | apply Kd.R_drewN | apply Kd.R_drew)); exact HL152_0.out) hb); have n4_ := Aside0.mk (Kd.R_elder' (by (with_reducible repeat (first | apply Kd.R_alloc | apply Kd.R_drewN | apply Kd.R_drew)); exact HO156.out) (Kd.R_base ho0) hb); have n5_ := Aside0.mk (Kd.R_lower (Kd.R_new' ho0 (Kd.R_lt (by (with_reducible repeat (first | apply Kd.R_alloc | apply Kd.R_drewN | apply Kd.R_drew)); exact HO156.out))) (below_size (by repeat (first | (with_reducible first | exact HB.out | apply below_alloc | apply pw_below_drewN | apply below_drew1 | refine below_set ?_ GE131.out | refine below_set ?_ GE137.out) | exact HB.out)))); have n6_ := Aside0.mk (blk_below (g := gb131) (o := .cells #[.slice (some ad149) t126.length co8, .string t129] 25 (0, 0)) (by (with_reducible repeat (first | refine blk_drewN ?_ _ | refine blk_drew ?_ | refine blk_alloc ?_ _)); exact BK131.out) hb); have n7_ := Aside0.mk (blk_below (g := gb137) (o := .cells #[.slice Ao12 t132.length co12, .string t135] 25 (0, 0)) (by (with_reducible repeat (first | refine blk_drewN ?_ _ | refine blk_drew ?_ | refine blk_alloc ?_ _)); exact BK137.out) hb); have n8_ := Aside0.mk (Kd.C_below (by repeat (first | (with_reducible exact HR152_0.out) | (with_reducible refine Kd.C_alloc ?_ _) | (with_reducible refine Kd.C_drewN ?_ _) | (with_reducible refine Kd.C_drew ?_) | exact HR152_0.out)) hb); have n9_ := Aside0.mk (below_step (by repeat (first | (with_reducible first | exact HB.out | apply below_alloc | apply pw_below_drewN | apply below_drew1 | refine below_set ?_ GE131.out | refine below_set ?_ GE137.out) | exact HB.out)) hb); clear HO_5; clear HO_132000; clear HO_138000; clear HL152_0; clear HO156; clear BK131; clear BK137; clear HR152_0; clear HB; have HO_5 := n0_; have HO_132000 := n1_; have HO_138000 := n2_; have HL152_0 := n3_; have HO156 := n4_; have HO159 := n5_; have BK131 := n6_; have BK137 := n7_; have HR152_0 := n8_; have HB := n9_; clear n0_ n1_ n2_ n3_ n4_ n5_ n6_ n7_ n8_ n9_; (try clear hb); (try clear hb2); (try clear hk); (try clear hi); (try clear ho0)) | ((with_reducible refine gate_dst (N := 114) rfl ?_); (try (refine gate_guard (by rfl) ?_; dsimp only)); refine Kd.R_lit Kd.string _ 9 ?hg (N := 114) ?hd (xs := ([(⟨#[97]⟩ : ByteArray), (⟨#[]⟩ : ByteArray), (⟨#[98]⟩ : ByteArray)] : List ByteArray)) (inner := [.string (⟨#[97]⟩ : ByteArray), .string (⟨#[]⟩ : ByteArray), .string (⟨#[98]⟩ : ByteArray)]) (ok := fun _ => True) (okp := fun _ => True) ?hr ?hp (fun _ hk => hk) trivial (Below.refl _ _) (Nat.le_refl _) (by simp) ?_; (case hd => rfl); (case hg => rfl); (case hr => first | (go_simp; done) | (go_simp; rfl)); (case hp => exact (Reps.one (show Kd.M Kd.string _ _ _ (⟨#[97]⟩ : ByteArray) [.string (⟨#[97]⟩ : ByteArray)] from rfl) (Reps.one (show Kd.M Kd.string _ _ _ (⟨#[]⟩ : ByteArray) [.string (⟨#[]⟩ : ByteArray)] from rfl) (Reps.one (show Kd.M Kd.string _ _ _ (⟨#[98]⟩ : ByteArray) [.string (⟨#[98]⟩ : ByteArray)] from rfl) (Reps.none _ _))))); intro v161 w55 ho56 hb hg_ hnew_; clear hg_ hnew_; (first | rw [← Ny160.out] at ho56 | (simp only [Int.reduceToNat] at ho56; rw [← Ny160.out] at ho56)); have n0_ := Aside0.mk (Kd.S_below (by (with_reducible repeat (first | apply Kd.S_alloc | apply Kd.S_drewN | apply Kd.S_drew)); exact HO_5.out) hb); have n1_ := Aside0.mk (Kd.R_below (by (with_reducible repeat (first | apply Kd.R_alloc | apply Kd.R_drewN | apply Kd.R_drew)); exact HO_132000.out) hb); have n2_ := Aside0.mk (Kd.R_below (by (with_reducible repeat (first | apply Kd.R_alloc | apply Kd.R_drewN | apply Kd.R_drew)); exact HO_138000.out) hb); have n3_ := Aside0.mk (Kd.R_below (by (with_reducible repeat (first | apply Kd.R_alloc | apply Kd.R_drewN | apply Kd.R_drew)); exact HL152_0.out) hb); have n4_ := Aside0.mk (Kd.R_elder' (by (with_reducible repeat (first | apply Kd.R_alloc | apply Kd.R_drewN | apply Kd.R_drew)); exact HO156.out) (Kd.R_base ho56) hb); have n5_ := Aside0.mk (Kd.R_elder' (by (with_reducible repeat (first | apply Kd.R_alloc | apply Kd.R_drewN | apply Kd.R_drew)); exact HO159.out) (Kd.R_base ho56) hb); have n6_ := Aside0.mk (Kd.R_lower (Kd.R_new' (Kd.R_new' ho56 (Kd.R_lt (by (with_reducible repeat (first | apply Kd.R_alloc | apply Kd.R_drewN | apply Kd.R_drew)); exact HO156.out))) (Kd.R_lt (by (with_reducible repeat (first | apply Kd.R_alloc | apply Kd.R_drewN | apply Kd.R_drew)); exact HO159.out))) (below_size (by repeat (first | (with_reducible first | exact HB.out | apply below_alloc | apply pw_below_drewN | apply below_drew1 | refine below_set ?_ GE131.out | refine below_set ?_ GE137.out) | exact HB.out)))); have n7_ := Aside0.mk (blk_below (g := gb131) (o := .cells #[.slice (some ad149) t126.length co8, .string t129] 25 (0, 0)) (by (with_reducible repeat (first | refine blk_drewN ?_ _ | refine blk_drew ?_ | refine blk_alloc ?_ _)); exact BK131.out) hb); have n8_ := Aside0.mk (blk_below (g := gb137) (o := .cells #[.slice Ao12 t132.length co12, .string t135] 25 (0, 0)) (by (with_reducible repeat (first | refine blk_drewN ?_ _ | refine blk_drew ?_ | refine blk_alloc ?_ _)); exact BK137.out) hb); have n9_ := Aside0.mk (Kd.C_below (by repeat (first | (with_reducible exact HR152_0.out) | (with_reducible refine Kd.C_alloc ?_ _) | (with_reducible refine Kd.C_drewN ?_ _) | (with_reducible refine Kd.C_drew ?_) | exact HR152_0.out)) hb); have n10_ := Aside0.mk (below_step (by repeat (first | (with_reducible first | exact HB.out | apply below_alloc | apply pw_below_drewN | apply below_drew1 | refine below_set ?_ GE131.out | refine below_set ?_ GE137.out) | exact HB.out)) hb); clear HO_5; clear HO_132000; clear HO_138000; clear HL152_0; clear HO156; clear HO159; clear BK131; clear BK137; clear HR152_0; clear HB; have HO_5 := n0_; have HO_132000 := n1_; have HO_138000 := n2_; have HL152_0 := n3_; have HO156 := n4_; have HO159 := n5_; have HO162 := n6_; have BK131 := n7_; have BK137 := n8_; have HR152_0 := n9_; have HB := n10_; clear n0_ n1_ n2_ n3_ n4_ n5_ n6_ n7_ n8_ n9_ n10_; clear hb ho56; obtain ⟨Ao57, co57, eo57⟩ := Kd.R_slice HO159.out; subst eo57; obtain ⟨Ao58, co58, eo58⟩ := Kd.R_slice HO162.out; subst eo58) | (go_at_call 15; (with_reducible refine (armadaref03_Same.calls kj4 _ _ t157 _ _ y160 true _ ?side1 ?side2 ?side3 ?side4 A48.out).mono ?_); (case side1 => repeat (first | exact (Kd.R_reads' HO159.out).2.2 | (with_reducible refine Kd.C_alloc ?_ _) | (with_reducible refine Kd.C_drewN ?_ _) | (with_reducible refine Kd.C_drew ?_))); (case side2 => exact (Kd.R_reads' HO159.out).2.1); (case side3 => repeat (first | exact (Kd.R_reads' HO162.out).2.2 | (with_reducible refine Kd.C_alloc ?_ _) | (with_reducible refine Kd.C_drewN ?_ _) | (with_reducible refine Kd.C_drew ?_))); (case side4 => exact (Kd.R_reads' HO162.out).2.1); rintro e w' ⟨rfl, ⟨nd, rfl⟩⟩))
                                          go_ret
                                          exact ⟨by first | rfl | (simp [errW_none, errW_some] <;> rfl) | (simp [*, errW_none, errW_some] <;> rfl), by repeat (first | (with_reducible first | exact HB.out | apply below_alloc | apply pw_below_drewN | apply below_drew1 | refine below_set ?_ GE131.out | refine below_set ?_ GE137.out) | exact HB.out)⟩
                                        · rw [if_neg c46] at H
                                          have c46b0 : ((t154.length : Int) == 0) = false := beq_eq_false_iff_ne.mpr c46
                                          have c46b1 : ((t154.length : Int) != 0) = true := bne_iff_ne.mpr c46
                                          have c46b2 : ¬ (t154 = []) := fun h_ => c46 (by rw [h_]; rfl)
                                          exact absurd H (by simp)
                                      · rw [if_neg c44] at H
                                        have c44b0 : (t145 == 9) = false := beq_eq_false_iff_ne.mpr c44
                                        have c44b1 : (t145 != 9) = true := bne_iff_ne.mpr c44
                                        exact absurd H (by simp)
                                    · rw [if_neg c43] at H
                                      have c43b0 : (t144 == 1) = false := beq_eq_false_iff_ne.mpr c43
                                      have c43b1 : (t144 != 1) = true := bne_iff_ne.mpr c43
                                      exact absurd H (by simp)
                                  · rw [if_neg c42] at H
                                    have c42b0 : ((((rd_T47 ((rd_T25 t138 2).f0) 1).f0).toList) == ([99] : List UInt8) && (((rd_T47 ((rd_T25 t138 2).f0) 1).f1) == 2)) = false := by simpa using c42
                                    (try (have c42b1 : decide ((((rd_T47 ((rd_T25 t138 2).f0) 1).f0).toList) = ([99] : List UInt8) && (((rd_T47 ((rd_T25 t138 2).f0) 1).f1) == 2)) = false := by simpa using c42))
                                    (try (have c42b2 : ((((rd_T47 ((rd_T25 t138 2).f0) 1).f0).toList) == ([99] : List UInt8) && (((rd_T47 ((rd_T25 t138 2).f0) 1).f1) == 2)) = false := by simpa using c42))
                                    (try (have c42b3 : ¬ ((((rd_T47 ((rd_T25 t138 2).f0) 1).f0).toList) = ([99] : List UInt8) && (((rd_T47 ((rd_T25 t138 2).f0) 1).f1) == 2)) := by simpa using c42))
                                    clear c42
                                    exact absurd H (by simp)
                                · rw [if_neg c41] at H
                                  exact absurd H (by simp)
                              · rw [if_neg c40] at H
                                exact absurd H (by simp)
                            · rw [if_neg c39] at H
                              have c39b0 : (t140 == 0) = false := beq_eq_false_iff_ne.mpr c39
                              have c39b1 : (t140 != 0) = true := bne_iff_ne.mpr c39
                              exact absurd H (by simp)
                          · rw [if_neg c38] at H
                            have c38b0 : (t139 == 3) = false := beq_eq_false_iff_ne.mpr c38
                            have c38b1 : (t139 != 3) = true := bne_iff_ne.mpr c38
                            exact absurd H (by simp)
                        · rw [if_neg c37] at H
                          have c37b0 : (t136 == 9) = false := beq_eq_false_iff_ne.mpr c37
                          have c37b1 : (t136 != 9) = true := bne_iff_ne.mpr c37
                          exact absurd H (by simp)
                      · rw [if_neg c36] at H
                        have c36b0 : (t129.toList == ([47, 47, 32, 98] : List UInt8)) = false := beq_eq_false_iff_ne.mpr c36
                        have c36b1 : (t129.toList != ([47, 47, 32, 98] : List UInt8)) = true := bne_iff_ne.mpr c36
                        exact absurd H (by simp)
                    · rw [if_neg c35] at H
                      have c35b0 : (((rd_T47 t126 1).f0).toList == ([40] : List UInt8)) = false := beq_eq_false_iff_ne.mpr c35
                      have c35b1 : (((rd_T47 t126 1).f0).toList != ([40] : List UInt8)) = true := bne_iff_ne.mpr c35
                      exact absurd H (by simp)
                  · rw [if_neg c34] at H
                    exact absurd H (by simp)
                · rw [if_neg c33] at H
                  have c33b0 : (((rd_T47 t126 3).f0).toList == ([118, 49] : List UInt8)) = false := beq_eq_false_iff_ne.mpr c33
                  have c33b1 : (((rd_T47 t126 3).f0).toList != ([118, 49] : List UInt8)) = true := bne_iff_ne.mpr c33
                  exact absurd H (by simp)
              · rw [if_neg c32] at H
                exact absurd H (by simp)
            · rw [if_neg c31] at H
              have c31b0 : ((((rd_T47 t126 2).f0).toList) == ([101, 120, 47, 47, 97] : List UInt8) && (((rd_T47 t126 2).f1) == 8)) = false := by simpa using c31
              (try (have c31b1 : decide ((((rd_T47 t126 2).f0).toList) = ([101, 120, 47, 47, 97] : List UInt8) && (((rd_T47 t126 2).f1) == 8)) = false := by simpa using c31))
              (try (have c31b2 : ((((rd_T47 t126 2).f0).toList) == ([101, 120, 47, 47, 97] : List UInt8) && (((rd_T47 t126 2).f1) == 8)) = false := by simpa using c31))
              (try (have c31b3 : ¬ ((((rd_T47 t126 2).f0).toList) = ([101, 120, 47, 47, 97] : List UInt8) && (((rd_T47 t126 2).f1) == 8)) := by simpa using c31))
              clear c31
              exact absurd H (by simp)
          · rw [if_neg c30] at H
            exact absurd H (by simp)
        · rw [if_neg c29] at H
          have c29b0 : (t130 == 0) = false := beq_eq_false_iff_ne.mpr c29
          have c29b1 : (t130 != 0) = true := bne_iff_ne.mpr c29
          exact absurd H (by simp)
end
mutual
def armadalaw09_LexRemarks.j0 : Nat → ByteArray → ByteArray → Bool → Option (Bool)
  | 0, _, _, _ => none
  | k + 1, x0, x1, x18 => if x18 = true then ((armadalaw09_live.f k).bind fun t298 => (some t298)) else ((lex_One.f x0).bind fun bt299 => ((armadaref09_One.f k x1).bind fun bt305 => (if bt299.2.2 = 0 then (if bt305.2.2 = 0 then (armadalaw09_LexRemarks.j1 k x0 x1 (bt299.2.1.toList != ([] : List UInt8)) bt299.1 bt299.2.1) else (armadalaw09_LexRemarks.j1 k x0 x1 true bt299.1 bt299.2.1)) else (armadalaw09_LexRemarks.j1 k x0 x1 true bt299.1 bt299.2.1))))
def armadalaw09_LexRemarks.j1 : Nat → ByteArray → ByteArray → Bool → List (S47) → ByteArray → Option (Bool)
  | 0, _, _, _, _, _ => none
  | k + 1, x0, x1, x40, x305000, x305001 => if x40 = true then ((armadalaw09_live.f k).bind fun t311 => (some t311)) else (if x0.size + 3 ≤ 9223372036854775807 then (if (x0 ++ (⟨#[32, 47, 47]⟩ : ByteArray)).size + x1.size ≤ 9223372036854775807 then ((lex_One.f ((x0 ++ (⟨#[32, 47, 47]⟩ : ByteArray)) ++ x1)).bind fun bt312 => (if bt312.2.2 = 0 then (if 2 + x1.size ≤ 9223372036854775807 then (if bt312.2.1.toList = ((⟨#[47, 47]⟩ : ByteArray) ++ x1).toList then ((armadalaw09_told.f k bt312.1 (⟨#[]⟩ : ByteArray)).bind fun bt318 => ((armadalaw09_told.f k x305000 x305001).bind fun bt322 => ((armadaref09_Same.f k bt318.1 bt318.2 bt322.1 bt322.2).bind fun t326 => (if t326 = true then ((armadalaw09_live.f k).bind fun t327 => (some t327)) else (some false))))) else (some false)) else (none)) else (some false))) else (none)) else (none))
end
def armadalaw09_LexRemarks.f (k : Nat) (a0 : ByteArray) (a1 : ByteArray) : Option (Bool) := if (a0.size : Int) > 2000 then (armadalaw09_LexRemarks.j0 k a0 a1 true) else (armadalaw09_LexRemarks.j0 k a0 a1 (decide ((a1.size : Int) > 2000)))
theorem armadalaw09_LexRemarks.mono_l : ∀ k, (∀ y0 y1 y2, LeO (armadalaw09_LexRemarks.j0 k y0 y1 y2) (armadalaw09_LexRemarks.j0 (k + 1) y0 y1 y2)) ∧ (∀ y0 y1 y2 y3 y4, LeO (armadalaw09_LexRemarks.j1 k y0 y1 y2 y3 y4) (armadalaw09_LexRemarks.j1 (k + 1) y0 y1 y2 y3 y4))
  | 0 => ⟨fun _ _ _ r h => by simp [armadalaw09_LexRemarks.j0] at h, fun _ _ _ _ _ r h => by simp [armadalaw09_LexRemarks.j1] at h⟩
  | k + 1 => by
    obtain ⟨ih0, ih1⟩ := armadalaw09_LexRemarks.mono_l k
    refine ⟨?_, ?_⟩
    · intro y0 y1 y2
      unfold armadalaw09_LexRemarks.j0
      repeat' first
      | (with_reducible exact ih0 _ _ _)
      | (with_reducible exact ih1 _ _ _ _ _)
      | (with_reducible exact armadalaw09_live.mono _)
      | (with_reducible exact armadalaw09_told.mono _ _ _)
      | (with_reducible exact armadaref09_One.mono _ _)
      | (with_reducible exact armadaref09_Same.mono _ _ _ _ _)
      | (with_reducible exact LeO.refl _)
      | (with_reducible exact LeO.none _)
      | (with_reducible refine LeO.ite ?_ ?_)
      | (with_reducible refine LeO.bind ?_ (fun _ => ?_))
      | exact ih0 _ _ _
      | exact ih1 _ _ _ _ _
      | exact armadalaw09_live.mono _
      | exact armadalaw09_told.mono _ _ _
      | exact armadaref09_One.mono _ _
      | exact armadaref09_Same.mono _ _ _ _ _
      | exact LeO.none _
      | refine LeO.ite ?_ ?_
      | refine LeO.bind ?_ (fun _ => ?_)
    · intro y0 y1 y2 y3 y4
      unfold armadalaw09_LexRemarks.j1
      repeat' first
      | (with_reducible exact ih0 _ _ _)
      | (with_reducible exact ih1 _ _ _ _ _)
      | (with_reducible exact armadalaw09_live.mono _)
      | (with_reducible exact armadalaw09_told.mono _ _ _)
      | (with_reducible exact armadaref09_One.mono _ _)
      | (with_reducible exact armadaref09_Same.mono _ _ _ _ _)
      | (with_reducible exact LeO.refl _)
      | (with_reducible exact LeO.none _)
      | (with_reducible refine LeO.ite ?_ ?_)
      | (with_reducible refine LeO.bind ?_ (fun _ => ?_))
      | exact ih0 _ _ _
      | exact ih1 _ _ _ _ _
      | exact armadalaw09_live.mono _
      | exact armadalaw09_told.mono _ _ _
      | exact armadaref09_One.mono _ _
      | exact armadaref09_Same.mono _ _ _ _ _
      | exact LeO.none _
      | refine LeO.ite ?_ ?_
      | refine LeO.bind ?_ (fun _ => ?_)
theorem armadalaw09_LexRemarks.mono : ∀ a0 a1 k, LeO (armadalaw09_LexRemarks.f k a0 a1) (armadalaw09_LexRemarks.f (k + 1) a0 a1) := by
  intro a0 a1 k
  obtain ⟨ih0, ih1⟩ := armadalaw09_LexRemarks.mono_l k
  unfold armadalaw09_LexRemarks.f
  repeat' first
      | (with_reducible exact ih0 _ _ _)
      | (with_reducible exact ih1 _ _ _ _ _)
      | (with_reducible exact armadalaw09_live.mono _)
      | (with_reducible exact armadalaw09_told.mono _ _ _)
      | (with_reducible exact armadaref09_One.mono _ _)
      | (with_reducible exact armadaref09_Same.mono _ _ _ _ _)
      | (with_reducible exact LeO.refl _)
      | (with_reducible exact LeO.none _)
      | (with_reducible refine LeO.ite ?_ ?_)
      | (with_reducible refine LeO.bind ?_ (fun _ => ?_))
      | exact ih0 _ _ _
      | exact ih1 _ _ _ _ _
      | exact armadalaw09_live.mono _
      | exact armadalaw09_told.mono _ _ _
      | exact armadaref09_One.mono _ _
      | exact armadaref09_Same.mono _ _ _ _ _
      | exact LeO.none _
      | refine LeO.ite ?_ ?_
      | refine LeO.bind ?_ (fun _ => ?_)
def armadalaw09_LexRemarks.T8 : Bool × List (List Nat × List Nat) := (true, [([], []), ([0], [0]), ([1], [1]), ([2], [2]), ([3, 2], [2, 3]), ([2], [2]), ([5, 2], [2, 5]), ([4, 6, 2], [2, 4, 6]), ([2, 7], [2, 7]), ([8, 2], [8]), ([9], [9]), ([10, 9], [9, 10]), ([11, 9], [9, 11]), ([12, 9, 9], [9, 12]), ([9], [9]), ([14, 13, 9], [9, 14]), ([13, 15, 15, 9], [9, 13, 15]), ([9, 16], [9, 16]), ([17, 16], [17]), ([18, 18], [18]), ([18, 19], [18, 19]), ([20, 19, 0, 1, 2, 3, 4, 5, 6, 7, 8, 9, 10, 11, 12, 13, 14, 15, 16, 17, 18, 19, 20], [20])])
def armadalaw09_LexRemarks.B8 : List Nat := [0, 1, 3, 7, 15, 7, 39, 127, 255, 511, 1023, 2047, 4095, 8191, 1023, 32767, 65535, 131071, 262143, 524287, 1048575, 2097151]
theorem armadalaw09_LexRemarks.tab8 : rtab .any (opsOf Tryd.f7 8) = armadalaw09_LexRemarks.T8 := by kernel_rfl
theorem armadalaw09_LexRemarks.bits8 : waitsOk armadalaw09_LexRemarks.T8.2 armadalaw09_LexRemarks.B8 = true := by kernel_rfl
set_option maxHeartbeats 8000000 in
set_option maxRecDepth 100000 in
theorem armadalaw09_LexRemarks.calls (k : Nat) (a0 : ByteArray) (a1 : ByteArray) (r : Bool) (w : World) (h : armadalaw09_LexRemarks.f k a0 a1 = some r) (hT_ : r = true := by rfl) :
    Calls Tryd.prog 7 #[.string a0, .string a1] w fun e w' => e = .returned (.bool r) ∧ Below w.heap.size w w' := by
  subst hT_
  have hu25 := Tryd.underlying25
  have hu31 := Tryd.underlying31
  have HB := Aside0.mk (Below.refl w.heap.size w)
  have H : (if (a0.size : Int) > 2000 then (armadalaw09_LexRemarks.j0 k a0 a1 true) else (armadalaw09_LexRemarks.j0 k a0 a1 (decide ((a1.size : Int) > 2000)))) = some true := h
  clear h
  have HC3 := Aside0.mk H
  clear H
  go_enter Tryd.func7, Tryd.ntmps7
  go_upto_region 1 with (fail)
  go_cut [18] (fun v18 wc => ∃ (kq : Nat) (x18_2 : Bool), v18 = .bool x18_2 ∧ Aside0 (armadalaw09_LexRemarks.j0 kq a0 a1 x18_2 = some true) ∧ Aside0 (kq ≤ k) ∧ Aside0 (Below w.heap.size w wc))
  case first =>
    have H := HC3.out
    clear HC3
    by_cases c4 : (a0.size : Int) > 2000
    · rw [if_pos c4] at H
      have c4b0 : decide (2000 < (a0.size : Int)) = true := decide_eq_true c4
      have c4b1 : decide (2000 < a0.size) = true := decide_eq_true (by omega)
      clear c4
      (first | rw [c4b0] | (simp only [i64_w, i32_w]; rw [c4b0]) | skip)
      have H' := Aside0.mk H
      clear H
      go_wp2
      go_meet
      case rel => exact ⟨_, (true), (by first | rfl | (simp; done) | (simp [*]; done)), H', ⟨by first | omega | exact Nat.le_refl _⟩, ⟨by repeat (first | (with_reducible first | exact HB.out | apply below_alloc | apply pw_below_drewN | apply below_drew1) | exact HB.out)⟩⟩
    · rw [if_neg c4] at H
      have c4b0 : decide (2000 < (a0.size : Int)) = false := decide_eq_false c4
      have c4b1 : decide (2000 < a0.size) = false := decide_eq_false (by omega)
      clear c4
      (first | rw [c4b0] | (simp only [i64_w, i32_w]; rw [c4b0]) | skip)
      have H' := Aside0.mk H
      clear H
      go_wp2
      go_meet
      case rel => exact ⟨_, (decide ((a1.size : Int) > 2000)), (by first | rfl | (simp; done) | (simp [*]; done)), H', ⟨by first | omega | exact Nat.le_refl _⟩, ⟨by repeat (first | (with_reducible first | exact HB.out | apply below_alloc | apply pw_below_drewN | apply below_drew1) | exact HB.out)⟩⟩
  case rest =>
    clear HC3
    try clear p2
    try clear c4
    try clear c4b0
    try clear c4b1
    obtain ⟨kq, x18_2, rfl, HA, HJ2, HB⟩ := hcut
    cases kq with
    | zero => exact absurd HA.out (by simp [armadalaw09_LexRemarks.j0])
    | succ kj2 =>
      have H := HA.out
      clear HA
      simp only [armadalaw09_LexRemarks.j0] at H
      by_cases c5 : x18_2 = true
      · subst c5
        have H1 : ((armadalaw09_live.f kj2).bind fun t298 => (some t298)) = some true := by rw [if_pos rfl] at H; exact H
        clear H
        have H := H1
        clear H1
        replace H := Option.bind_eq_some_iff.mp H
        obtain ⟨t298, A60, H⟩ := H
        replace H : (some t298) = some true := H
        have A6 := Aside0.mk A60
        clear A60
        obtain rfl := Option.some.inj H
        go_wp2_with (first | ((with_reducible refine gate_callee (f := 8) rfl ?_); refine goesL_ (some 19) rfl rfl Tryd.func8 (by kernel_rfl) rfl #[] rfl (by (try simp only [List.map_toArray, List.map_cons, List.map_nil]); first | done | rfl | (simp only [List.length_drop, List.length_take]; rfl)) ?_; (with_reducible refine (armadalaw09_live.calls kj2  true _ A6.out).mono ?_); rintro e w7 ⟨rfl, hb⟩; refine ⟨_, rfl, ?_⟩; have n0_ := Aside0.mk (below_step (by repeat (first | (with_reducible first | exact HB.out | apply below_alloc | apply pw_below_drewN | apply below_drew1) | exact HB.out)) hb); clear HB; have HB := n0_; clear n0_; (try clear hb); (try clear hb2); (try clear hk); (try clear hi)))
        go_ret
        exact ⟨by first | rfl | (simp [errW_none, errW_some] <;> rfl) | (simp [*, errW_none, errW_some] <;> rfl), by repeat (first | (with_reducible first | exact HB.out | apply below_alloc | apply pw_below_drewN | apply below_drew1) | exact HB.out)⟩
      · replace c5 := Bool.eq_false_iff.mpr c5
        subst c5
        have H1 : ((lex_One.f a0).bind fun bt299 => ((armadaref09_One.f kj2 a1).bind fun bt305 => (if bt299.2.2 = 0 then (if bt305.2.2 = 0 then (armadalaw09_LexRemarks.j1 kj2 a0 a1 (bt299.2.1.toList != ([] : List UInt8)) bt299.1 bt299.2.1) else (armadalaw09_LexRemarks.j1 kj2 a0 a1 true bt299.1 bt299.2.1)) else (armadalaw09_LexRemarks.j1 kj2 a0 a1 true bt299.1 bt299.2.1)))) = some true := by rw [if_neg (show ¬ (false = true) by decide)] at H; exact H
        clear H
        have H := H1
        clear H1
        replace H := Option.bind_eq_some_iff.mp H
        obtain ⟨⟨t299, t302, t303⟩, A80, H⟩ := H
        replace H : ((armadaref09_One.f kj2 a1).bind fun bt305 => (if t303 = 0 then (if bt305.2.2 = 0 then (armadalaw09_LexRemarks.j1 kj2 a0 a1 (t302.toList != ([] : List UInt8)) t299 t302) else (armadalaw09_LexRemarks.j1 kj2 a0 a1 true t299 t302)) else (armadalaw09_LexRemarks.j1 kj2 a0 a1 true t299 t302))) = some true := H
        have A8 := Aside0.mk A80
        clear A80
        replace H := Option.bind_eq_some_iff.mp H
        obtain ⟨⟨t305, t308, t309⟩, A90, H⟩ := H
        replace H : (if t303 = 0 then (if t309 = 0 then (armadalaw09_LexRemarks.j1 kj2 a0 a1 (t302.toList != ([] : List UInt8)) t299 t302) else (armadalaw09_LexRemarks.j1 kj2 a0 a1 true t299 t302)) else (armadalaw09_LexRemarks.j1 kj2 a0 a1 true t299 t302)) = some true := H
        have A9 := Aside0.mk A90
        clear A90
        have HC10 := Aside0.mk H
        clear H
        go_upto_region 5 with (first | ((with_reducible refine gate_callee (f := 9) rfl ?_); refine goesL_ (some 22) rfl rfl Tryd.func9 (by kernel_rfl) rfl #[.string a0] rfl (by (try simp only [List.map_toArray, List.map_cons, List.map_nil]); first | done | rfl | (simp only [List.length_drop, List.length_take]; rfl)) ?_; (with_reducible refine (lex_One.calls a0 t299 t302 t303 _ A8.out).mono ?_); rintro e w11 ⟨v300, rfl, ho0, hb⟩; refine ⟨_, rfl, ?_⟩; have n0_ := Aside0.mk (Kd.R_lower ho0 (below_size (by repeat (first | (with_reducible first | exact HB.out | apply below_alloc | apply pw_below_drewN | apply below_drew1) | exact HB.out)))); have n1_ := Aside0.mk (below_step (by repeat (first | (with_reducible first | exact HB.out | apply below_alloc | apply pw_below_drewN | apply below_drew1) | exact HB.out)) hb); clear HB; have HO301 := n0_; have HB := n1_; clear n0_ n1_; (try clear hb); (try clear hb2); (try clear hk); (try clear hi); (try clear ho0)) | ((with_reducible refine gate_dst (N := 5) rfl ?_); (try (refine gate_guard (by rfl) ?_; dsimp only)); refine box_event ?hg (N := 5) ?hd (cs := #[.slice none 0 0, .string (⟨#[]⟩ : ByteArray)]) (t := 25) ?hr ?_; (case hd => rfl); (case hg => rfl); (case hr => first | (go_simp; done) | (go_simp; rfl)); intro gb304 hg w12 hbox hb; have n0_ := Aside0.mk (Kd.R_below (by (with_reducible repeat (first | apply Kd.R_alloc | apply Kd.R_drewN | apply Kd.R_drew)); exact HO301.out) hb); have n1_ := Aside0.mk (below_step (by repeat (first | (with_reducible first | exact HB.out | apply below_alloc | apply pw_below_drewN | apply below_drew1) | exact HB.out)) hb); have n2_ := Aside0.mk (hbox); have n3_ := Aside0.mk ((by rw [hg]; exact (below_size (by repeat (first | (with_reducible first | exact HB.out | apply below_alloc | apply pw_below_drewN | apply below_drew1) | exact HB.out))) : w.heap.size ≤ gb304)); have n4_ := Aside0.mk ((by rw [hg]; exact (below_size (by repeat (first | (with_reducible first | exact HB.out | apply below_alloc | apply pw_below_drewN | apply below_drew1) | exact HB.out))) : w.heap.size ≤ gb304)); clear HO301; clear HB; have HO301 := n0_; have HB := n1_; have BK304 := n2_; have GW304 := n3_; have GE304 := n4_; clear n0_ n1_ n2_ n3_ n4_; clear hb hbox hg; obtain ⟨Ao13, co13, eo13⟩ := Kd.R_slice HO301.out; subst eo13; have hcz14_0 : w12.cell? ⟨gb304, 0, none⟩ = some (.slice none 0 0) := (blk_cell BK304.out 0).trans rfl; have hcz14_1 : w12.cell? ⟨gb304, 1, none⟩ = some (.string (⟨#[]⟩ : ByteArray)) := (blk_cell BK304.out 1).trans rfl; have hfz14_0 := blk_frozen BK304.out 0; have hfz14_1 := blk_frozen BK304.out 1) | ((with_reducible refine gate_callee (f := 10) rfl ?_); refine goesL_ (some 27) rfl rfl Tryd.func10 (by kernel_rfl) rfl #[.string a1] rfl (by (try simp only [List.map_toArray, List.map_cons, List.map_nil]); first | done | rfl | (simp only [List.length_drop, List.length_take]; rfl)) ?_; (with_reducible refine (armadaref09_One.calls kj2 a1 t305 t308 t309 _ A9.out).mono ?_); rintro e w15 ⟨v306, rfl, ho0, hb⟩; refine ⟨_, rfl, ?_⟩; have n0_ := Aside0.mk (Kd.R_below (by (with_reducible repeat (first | apply Kd.R_alloc | apply Kd.R_drewN | apply Kd.R_drew)); exact (Kd.R_mono (Kd.R_far (p := ⟨gb304, 1, none⟩) (Kd.R_far (p := ⟨gb304, 0, none⟩) (Kd.R_types HO301.out BK304.out (by decide)) (fun _ hk => hk.2) (.slice Ao13 t299.length co13)) (fun _ hk => hk.2) (.string t302)) (fun _ h_ => h_.1))) hb); have n1_ := Aside0.mk (Kd.R_lower ho0 (below_size (by repeat (first | (with_reducible first | exact HB.out | apply below_alloc | apply pw_below_drewN | apply below_drew1 | refine below_set ?_ GE304.out) | exact HB.out)))); have n2_ := Aside0.mk (blk_below (g := gb304) (o := .cells #[.slice Ao13 t299.length co13, .string t302] 25 (0, 0)) (by (with_reducible repeat (first | refine blk_drewN ?_ _ | refine blk_drew ?_ | refine blk_alloc ?_ _)); refine blk_put (cs := #[.slice Ao13 t299.length co13, .string (⟨#[]⟩ : ByteArray)]) ?_ 1 _ rfl; (with_reducible repeat (first | refine blk_drewN ?_ _ | refine blk_drew ?_ | refine blk_alloc ?_ _)); refine blk_put (cs := #[.slice none 0 0, .string (⟨#[]⟩ : ByteArray)]) ?_ 0 _ rfl; (with_reducible repeat (first | refine blk_drewN ?_ _ | refine blk_drew ?_ | refine blk_alloc ?_ _)); exact BK304.out) hb); have n3_ := Aside0.mk (below_step (by repeat (first | (with_reducible first | exact HB.out | apply below_alloc | apply pw_below_drewN | apply below_drew1 | refine below_set ?_ GE304.out) | exact HB.out)) hb); clear HO301; clear BK304; clear HB; have HO301 := n0_; have HO307 := n1_; have BK304 := n2_; have HB := n3_; clear n0_ n1_ n2_ n3_; (try clear hb); (try clear hb2); (try clear hk); (try clear hi); (try clear ho0)) | ((with_reducible refine gate_dst (N := 7) rfl ?_); (try (refine gate_guard (by rfl) ?_; dsimp only)); refine box_event ?hg (N := 7) ?hd (cs := #[.slice none 0 0, .string (⟨#[]⟩ : ByteArray)]) (t := 31) ?hr ?_; (case hd => rfl); (case hg => rfl); (case hr => first | (go_simp; done) | (go_simp; rfl)); intro gb310 hg w16 hbox hb; have n0_ := Aside0.mk (Kd.R_below (by (with_reducible repeat (first | apply Kd.R_alloc | apply Kd.R_drewN | apply Kd.R_drew)); exact HO301.out) hb); have n1_ := Aside0.mk (Kd.R_below (by (with_reducible repeat (first | apply Kd.R_alloc | apply Kd.R_drewN | apply Kd.R_drew)); exact HO307.out) hb); have n2_ := Aside0.mk (blk_below (g := gb304) (o := .cells #[.slice Ao13 t299.length co13, .string t302] 25 (0, 0)) (by (with_reducible repeat (first | refine blk_drewN ?_ _ | refine blk_drew ?_ | refine blk_alloc ?_ _)); exact BK304.out) hb); have n3_ := Aside0.mk (below_step (by repeat (first | (with_reducible first | exact HB.out | apply below_alloc | apply pw_below_drewN | apply below_drew1 | refine below_set ?_ GE304.out) | exact HB.out)) hb); have n4_ := Aside0.mk (hbox); have n5_ := Aside0.mk ((by rw [hg]; exact (below_size (by repeat (first | (with_reducible first | exact HB.out | apply below_alloc | apply pw_below_drewN | apply below_drew1 | refine below_set ?_ GE304.out) | exact HB.out))) : w.heap.size ≤ gb310)); have n6_ := Aside0.mk ((by rw [hg]; exact (below_size (by repeat (first | (with_reducible first | exact HB.out | apply below_alloc | apply pw_below_drewN | apply below_drew1 | refine below_set ?_ GE304.out) | exact HB.out))) : w.heap.size ≤ gb310)); have n7_ := Aside0.mk ((by rw [hg]; exact Nat.ne_of_lt (blk_lt (g := gb304) (o := .cells #[.slice Ao13 t299.length co13, .string t302] 25 (0, 0)) (by (with_reducible repeat (first | refine blk_drewN ?_ _ | refine blk_drew ?_ | refine blk_alloc ?_ _)); exact BK304.out)) : gb304 ≠ gb310)); have n8_ := Aside0.mk ((by rw [hg]; exact Nat.ne_of_gt (blk_lt (g := gb304) (o := .cells #[.slice Ao13 t299.length co13, .string t302] 25 (0, 0)) (by (with_reducible repeat (first | refine blk_drewN ?_ _ | refine blk_drew ?_ | refine blk_alloc ?_ _)); exact BK304.out)) : gb310 ≠ gb304)); clear HO301; clear HO307; clear BK304; clear HB; have HO301 := n0_; have HO307 := n1_; have BK304 := n2_; have HB := n3_; have BK310 := n4_; have GW310 := n5_; have GE310 := n6_; have NB304_310 := n7_; have NB310_304 := n8_; clear n0_ n1_ n2_ n3_ n4_ n5_ n6_ n7_ n8_; clear hb hbox hg; obtain ⟨Ao17, co17, eo17⟩ := Kd.R_slice HO307.out; subst eo17; have hnb18 := NB310_304.out; have hnc18 := NB304_310.out; have hcz19_0 : w16.cell? ⟨gb310, 0, none⟩ = some (.slice none 0 0) := (blk_cell BK310.out 0).trans rfl; have hcz19_1 : w16.cell? ⟨gb310, 1, none⟩ = some (.string (⟨#[]⟩ : ByteArray)) := (blk_cell BK310.out 1).trans rfl; have hfz19_0 := blk_frozen BK310.out 0; have hfz19_1 := blk_frozen BK310.out 1))
        (try simp only [Act.put, List.setIfInBounds_toArray, List.set_cons_zero, List.set_cons_succ])
        go_cut [40] (fun v40 wc => ∃ (kq : Nat) (x40_9 : Bool), v40 = .bool x40_9 ∧ Aside0 (armadalaw09_LexRemarks.j1 kq a0 a1 x40_9 t299 t302 = some true) ∧ Aside0 (kq ≤ kj2) ∧ Aside0 (Kd.R k47 47 wc w.heap.size (fun _ => True) (.slice Ao13 t299.length co13) t299) ∧ Aside0 (Kd.R k58 58 wc w.heap.size (fun _ => True) (.slice Ao17 t305.length co17) t305) ∧ Aside0 (wc.heap[gb304]? = some (.cells #[(.slice Ao13 t299.length co13), .string t302] 25 (0, 0))) ∧ Aside0 (wc.heap[gb310]? = some (.cells #[(.slice Ao17 t305.length co17), .string t308] 31 (0, 0))) ∧ Aside0 (Below w.heap.size w wc))
        case first =>
          have H := HC10.out
          clear HC10
          by_cases c20 : t303 = 0
          · rw [if_pos c20] at H
            have c20b0 : (t303 == 0) = true := beq_iff_eq.mpr c20
            have c20b1 : (t303 != 0) = false := bne_eq_false_iff_eq.mpr c20
            clear c20
            (first | rw [c20b0] | (simp only [i64_w, i32_w]; rw [c20b0]) | skip)
            by_cases c21 : t309 = 0
            · rw [if_pos c21] at H
              have c21b0 : (t309 == 0) = true := beq_iff_eq.mpr c21
              have c21b1 : (t309 != 0) = false := bne_eq_false_iff_eq.mpr c21
              clear c21
              have H' := Aside0.mk H
              clear H
              have hnb22 := NB304_310.out
              have hnc22 := NB310_304.out
              have hcz23_0 : w16.cell? ⟨gb304, 0, none⟩ = some (.slice Ao13 t299.length co13) := (blk_cell BK304.out 0).trans rfl
              have hcz23_1 : w16.cell? ⟨gb304, 1, none⟩ = some (.string t302) := (blk_cell BK304.out 1).trans rfl
              have hfz23_0 := blk_frozen BK304.out 0
              have hfz23_1 := blk_frozen BK304.out 1
              go_wp2
              go_meet
              case rel => exact ⟨_, ((t302.toList != ([] : List UInt8))), (by first | rfl | (simp; done) | (cases t302.toList <;> rfl) | (simp [*]; done)), H', ⟨by have := HJ2.out; first | omega | exact Nat.le_refl _⟩, ⟨by (with_reducible repeat (first | apply Kd.R_alloc | apply Kd.R_drewN | apply Kd.R_drew)); exact Kd.R_mono (Kd.R_far (p := ⟨gb310, 1, none⟩) (Kd.R_far (p := ⟨gb310, 0, none⟩) (Kd.R_types HO301.out BK310.out (by decide)) (fun _ hk => hk.2) (.slice Ao17 t305.length co17)) (fun _ hk => hk.2) (.string t308)) (fun _ hk => trivial)⟩, ⟨by (with_reducible repeat (first | apply Kd.R_alloc | apply Kd.R_drewN | apply Kd.R_drew)); exact Kd.R_mono (Kd.R_far (p := ⟨gb310, 1, none⟩) (Kd.R_far (p := ⟨gb310, 0, none⟩) (Kd.R_types HO307.out BK310.out (by decide)) (fun _ hk => hk.2) (.slice Ao17 t305.length co17)) (fun _ hk => hk.2) (.string t308)) (fun _ hk => trivial)⟩, ⟨by (with_reducible repeat (first | refine blk_drewN ?_ _ | refine blk_drew ?_ | refine blk_alloc ?_ _)); refine blk_far ?_ NB304_310.out _; (with_reducible repeat (first | refine blk_drewN ?_ _ | refine blk_drew ?_ | refine blk_alloc ?_ _)); refine blk_far ?_ NB304_310.out _; (with_reducible repeat (first | refine blk_drewN ?_ _ | refine blk_drew ?_ | refine blk_alloc ?_ _)); exact BK304.out⟩, ⟨by (with_reducible repeat (first | refine blk_drewN ?_ _ | refine blk_drew ?_ | refine blk_alloc ?_ _)); refine blk_put (cs := #[.slice Ao17 t305.length co17, .string (⟨#[]⟩ : ByteArray)]) ?_ 1 _ rfl; (with_reducible repeat (first | refine blk_drewN ?_ _ | refine blk_drew ?_ | refine blk_alloc ?_ _)); refine blk_put (cs := #[.slice none 0 0, .string (⟨#[]⟩ : ByteArray)]) ?_ 0 _ rfl; (with_reducible repeat (first | refine blk_drewN ?_ _ | refine blk_drew ?_ | refine blk_alloc ?_ _)); exact BK310.out⟩, ⟨by repeat (first | (with_reducible first | exact HB.out | apply below_alloc | apply pw_below_drewN | apply below_drew1 | refine below_set ?_ GE304.out | refine below_set ?_ GE310.out) | exact HB.out)⟩⟩
            · rw [if_neg c21] at H
              have c21b0 : (t309 == 0) = false := beq_eq_false_iff_ne.mpr c21
              have c21b1 : (t309 != 0) = true := bne_iff_ne.mpr c21
              have H' := Aside0.mk H
              clear H
              go_wp2
              go_meet
              case rel => exact ⟨_, (true), (by first | rfl | (simp; done) | (simp [*]; done)), H', ⟨by have := HJ2.out; first | omega | exact Nat.le_refl _⟩, ⟨by (with_reducible repeat (first | apply Kd.R_alloc | apply Kd.R_drewN | apply Kd.R_drew)); exact Kd.R_mono (Kd.R_far (p := ⟨gb310, 1, none⟩) (Kd.R_far (p := ⟨gb310, 0, none⟩) (Kd.R_types HO301.out BK310.out (by decide)) (fun _ hk => hk.2) (.slice Ao17 t305.length co17)) (fun _ hk => hk.2) (.string t308)) (fun _ hk => trivial)⟩, ⟨by (with_reducible repeat (first | apply Kd.R_alloc | apply Kd.R_drewN | apply Kd.R_drew)); exact Kd.R_mono (Kd.R_far (p := ⟨gb310, 1, none⟩) (Kd.R_far (p := ⟨gb310, 0, none⟩) (Kd.R_types HO307.out BK310.out (by decide)) (fun _ hk => hk.2) (.slice Ao17 t305.length co17)) (fun _ hk => hk.2) (.string t308)) (fun _ hk => trivial)⟩, ⟨by (with_reducible repeat (first | refine blk_drewN ?_ _ | refine blk_drew ?_ | refine blk_alloc ?_ _)); refine blk_far ?_ NB304_310.out _; (with_reducible repeat (first | refine blk_drewN ?_ _ | refine blk_drew ?_ | refine blk_alloc ?_ _)); refine blk_far ?_ NB304_310.out _; (with_reducible repeat (first | refine blk_drewN ?_ _ | refine blk_drew ?_ | refine blk_alloc ?_ _)); exact BK304.out⟩, ⟨by (with_reducible repeat (first | refine blk_drewN ?_ _ | refine blk_drew ?_ | refine blk_alloc ?_ _)); refine blk_put (cs := #[.slice Ao17 t305.length co17, .string (⟨#[]⟩ : ByteArray)]) ?_ 1 _ rfl; (with_reducible repeat (first | refine blk_drewN ?_ _ | refine blk_drew ?_ | refine blk_alloc ?_ _)); refine blk_put (cs := #[.slice none 0 0, .string (⟨#[]⟩ : ByteArray)]) ?_ 0 _ rfl; (with_reducible repeat (first | refine blk_drewN ?_ _ | refine blk_drew ?_ | refine blk_alloc ?_ _)); exact BK310.out⟩, ⟨by repeat (first | (with_reducible first | exact HB.out | apply below_alloc | apply pw_below_drewN | apply below_drew1 | refine below_set ?_ GE304.out | refine below_set ?_ GE310.out) | exact HB.out)⟩⟩
          · rw [if_neg c20] at H
            have c20b0 : (t303 == 0) = false := beq_eq_false_iff_ne.mpr c20
            have c20b1 : (t303 != 0) = true := bne_iff_ne.mpr c20
            (first | rw [c20b0] | (simp only [i64_w, i32_w]; rw [c20b0]) | skip)
            have H' := Aside0.mk H
            clear H
            go_wp2
            go_meet
            case rel => exact ⟨_, (true), (by first | rfl | (simp; done) | (simp [*]; done)), H', ⟨by have := HJ2.out; first | omega | exact Nat.le_refl _⟩, ⟨by (with_reducible repeat (first | apply Kd.R_alloc | apply Kd.R_drewN | apply Kd.R_drew)); exact Kd.R_mono (Kd.R_far (p := ⟨gb310, 1, none⟩) (Kd.R_far (p := ⟨gb310, 0, none⟩) (Kd.R_types HO301.out BK310.out (by decide)) (fun _ hk => hk.2) (.slice Ao17 t305.length co17)) (fun _ hk => hk.2) (.string t308)) (fun _ hk => trivial)⟩, ⟨by (with_reducible repeat (first | apply Kd.R_alloc | apply Kd.R_drewN | apply Kd.R_drew)); exact Kd.R_mono (Kd.R_far (p := ⟨gb310, 1, none⟩) (Kd.R_far (p := ⟨gb310, 0, none⟩) (Kd.R_types HO307.out BK310.out (by decide)) (fun _ hk => hk.2) (.slice Ao17 t305.length co17)) (fun _ hk => hk.2) (.string t308)) (fun _ hk => trivial)⟩, ⟨by (with_reducible repeat (first | refine blk_drewN ?_ _ | refine blk_drew ?_ | refine blk_alloc ?_ _)); refine blk_far ?_ NB304_310.out _; (with_reducible repeat (first | refine blk_drewN ?_ _ | refine blk_drew ?_ | refine blk_alloc ?_ _)); refine blk_far ?_ NB304_310.out _; (with_reducible repeat (first | refine blk_drewN ?_ _ | refine blk_drew ?_ | refine blk_alloc ?_ _)); exact BK304.out⟩, ⟨by (with_reducible repeat (first | refine blk_drewN ?_ _ | refine blk_drew ?_ | refine blk_alloc ?_ _)); refine blk_put (cs := #[.slice Ao17 t305.length co17, .string (⟨#[]⟩ : ByteArray)]) ?_ 1 _ rfl; (with_reducible repeat (first | refine blk_drewN ?_ _ | refine blk_drew ?_ | refine blk_alloc ?_ _)); refine blk_put (cs := #[.slice none 0 0, .string (⟨#[]⟩ : ByteArray)]) ?_ 0 _ rfl; (with_reducible repeat (first | refine blk_drewN ?_ _ | refine blk_drew ?_ | refine blk_alloc ?_ _)); exact BK310.out⟩, ⟨by repeat (first | (with_reducible first | exact HB.out | apply below_alloc | apply pw_below_drewN | apply below_drew1 | refine below_set ?_ GE304.out | refine below_set ?_ GE310.out) | exact HB.out)⟩⟩
        case rest =>
          clear HC10
          try clear c1
          try clear c2
          try clear p2
          try clear c4
          try clear c4b0
          try clear c4b1
          try clear c5
          try clear c7
          try clear c8
          try clear c9
          try clear c10
          try clear c18
          try clear c20
          try clear c20b0
          try clear c20b1
          try clear c21
          try clear c21b0
          try clear c21b1
          try clear c22
          try clear hcz14_0
          try clear hcz14_1
          try clear hcz19_0
          try clear hcz19_1
          try clear hcz23_0
          try clear hcz23_1
          try clear hfz14_0
          try clear hfz14_1
          try clear hfz19_0
          try clear hfz19_1
          try clear hfz23_0
          try clear hfz23_1
          try clear p2
          obtain ⟨kq, x40_9, rfl, HA, HJ9, HO_305000, HO_311000, BK304, BK310, HB⟩ := hcut
          cases kq with
          | zero => exact absurd HA.out (by simp [armadalaw09_LexRemarks.j1])
          | succ kj9 =>
            have H := HA.out
            clear HA
            simp only [armadalaw09_LexRemarks.j1] at H
            by_cases c24 : x40_9 = true
            · subst c24
              have H1 : ((armadalaw09_live.f kj9).bind fun t311 => (some t311)) = some true := by rw [if_pos rfl] at H; exact H
              clear H
              have H := H1
              clear H1
              replace H := Option.bind_eq_some_iff.mp H
              obtain ⟨t311, A250, H⟩ := H
              replace H : (some t311) = some true := H
              have A25 := Aside0.mk A250
              clear A250
              obtain rfl := Option.some.inj H
              go_wp2_with (first | ((with_reducible refine gate_callee (f := 8) rfl ?_); refine goesL_ (some 41) rfl rfl Tryd.func8 (by kernel_rfl) rfl #[] rfl (by (try simp only [List.map_toArray, List.map_cons, List.map_nil]); first | done | rfl | (simp only [List.length_drop, List.length_take]; rfl)) ?_; (with_reducible refine (armadalaw09_live.calls kj9  true _ A25.out).mono ?_); rintro e w26 ⟨rfl, hb⟩; refine ⟨_, rfl, ?_⟩; have n0_ := Aside0.mk (Kd.R_below (by (with_reducible repeat (first | apply Kd.R_alloc | apply Kd.R_drewN | apply Kd.R_drew)); exact HO_305000.out) hb); have n1_ := Aside0.mk (Kd.R_below (by (with_reducible repeat (first | apply Kd.R_alloc | apply Kd.R_drewN | apply Kd.R_drew)); exact HO_311000.out) hb); have n2_ := Aside0.mk (blk_below (g := gb304) (o := .cells #[.slice Ao13 t299.length co13, .string t302] 25 (0, 0)) (by (with_reducible repeat (first | refine blk_drewN ?_ _ | refine blk_drew ?_ | refine blk_alloc ?_ _)); exact BK304.out) hb); have n3_ := Aside0.mk (blk_below (g := gb310) (o := .cells #[.slice Ao17 t305.length co17, .string t308] 31 (0, 0)) (by (with_reducible repeat (first | refine blk_drewN ?_ _ | refine blk_drew ?_ | refine blk_alloc ?_ _)); exact BK310.out) hb); have n4_ := Aside0.mk (below_step (by repeat (first | (with_reducible first | exact HB.out | apply below_alloc | apply pw_below_drewN | apply below_drew1 | refine below_set ?_ GE304.out | refine below_set ?_ GE310.out) | exact HB.out)) hb); clear HO_305000; clear HO_311000; clear BK304; clear BK310; clear HB; have HO_305000 := n0_; have HO_311000 := n1_; have BK304 := n2_; have BK310 := n3_; have HB := n4_; clear n0_ n1_ n2_ n3_ n4_; (try clear hb); (try clear hb2); (try clear hk); (try clear hi)))
              go_ret
              exact ⟨by first | rfl | (simp [errW_none, errW_some] <;> rfl) | (simp [*, errW_none, errW_some] <;> rfl), by repeat (first | (with_reducible first | exact HB.out | apply below_alloc | apply pw_below_drewN | apply below_drew1 | refine below_set ?_ GE304.out | refine below_set ?_ GE310.out) | exact HB.out)⟩
            · replace c24 := Bool.eq_false_iff.mpr c24
              subst c24
              have H1 : (if a0.size + 3 ≤ 9223372036854775807 then (if (a0 ++ (⟨#[32, 47, 47]⟩ : ByteArray)).size + a1.size ≤ 9223372036854775807 then ((lex_One.f ((a0 ++ (⟨#[32, 47, 47]⟩ : ByteArray)) ++ a1)).bind fun bt312 => (if bt312.2.2 = 0 then (if 2 + a1.size ≤ 9223372036854775807 then (if bt312.2.1.toList = ((⟨#[47, 47]⟩ : ByteArray) ++ a1).toList then ((armadalaw09_told.f kj9 bt312.1 (⟨#[]⟩ : ByteArray)).bind fun bt318 => ((armadalaw09_told.f kj9 t299 t302).bind fun bt322 => ((armadaref09_Same.f kj9 bt318.1 bt318.2 bt322.1 bt322.2).bind fun t326 => (if t326 = true then ((armadalaw09_live.f kj9).bind fun t327 => (some t327)) else (some false))))) else (some false)) else (none)) else (some false))) else (none)) else (none)) = some true := by rw [if_neg (show ¬ (false = true) by decide)] at H; exact H
              clear H
              have H := H1
              clear H1
              by_cases c27 : a0.size + 3 ≤ 9223372036854775807
              · rw [if_pos c27] at H
                have c27b0 := eq_true c27
                have c27b1 : decide (a0.size + 3 ≤ 9223372036854775807) = true := decide_eq_true c27
                try have c27b2 : (9223372036854775807 < a0.size + 3) = False := eq_false (Nat.not_lt.2 c27)
                by_cases c28 : (a0 ++ (⟨#[32, 47, 47]⟩ : ByteArray)).size + a1.size ≤ 9223372036854775807
                · rw [if_pos c28] at H
                  have c28b0 := eq_true c28
                  have c28b1 : decide ((a0 ++ (⟨#[32, 47, 47]⟩ : ByteArray)).size + a1.size ≤ 9223372036854775807) = true := decide_eq_true c28
                  try have c28b2 : (9223372036854775807 < (a0 ++ (⟨#[32, 47, 47]⟩ : ByteArray)).size + a1.size) = False := eq_false (Nat.not_lt.2 c28)
                  (try (have c28b3 := c28; simp only [show (⟨#[32, 47, 47]⟩ : ByteArray).size = 3 from rfl, ByteArray.size_append, ByteArray.size_extract] at c28b3; have c28b4 := eq_true c28b3; have c28b5 := decide_eq_true c28b3; have c28b6 := eq_false (Nat.not_lt.2 c28b3)))
                  replace H := Option.bind_eq_some_iff.mp H
                  obtain ⟨⟨t312, t315, t316⟩, A290, H⟩ := H
                  replace H : (if t316 = 0 then (if 2 + a1.size ≤ 9223372036854775807 then (if t315.toList = ((⟨#[47, 47]⟩ : ByteArray) ++ a1).toList then ((armadalaw09_told.f kj9 t312 (⟨#[]⟩ : ByteArray)).bind fun bt318 => ((armadalaw09_told.f kj9 t299 t302).bind fun bt322 => ((armadaref09_Same.f kj9 bt318.1 bt318.2 bt322.1 bt322.2).bind fun t326 => (if t326 = true then ((armadalaw09_live.f kj9).bind fun t327 => (some t327)) else (some false))))) else (some false)) else (none)) else (some false)) = some true := H
                  have A29 := Aside0.mk A290
                  clear A290
                  by_cases c30 : t316 = 0
                  · rw [if_pos c30] at H
                    have c30b0 : (t316 == 0) = true := beq_iff_eq.mpr c30
                    have c30b1 : (t316 != 0) = false := bne_eq_false_iff_eq.mpr c30
                    clear c30
                    by_cases c31 : 2 + a1.size ≤ 9223372036854775807
                    · rw [if_pos c31] at H
                      have c31b0 := eq_true c31
                      have c31b1 : decide (2 + a1.size ≤ 9223372036854775807) = true := decide_eq_true c31
                      try have c31b2 : (9223372036854775807 < 2 + a1.size) = False := eq_false (Nat.not_lt.2 c31)
                      by_cases c32 : t315.toList = ((⟨#[47, 47]⟩ : ByteArray) ++ a1).toList
                      · rw [if_pos c32] at H
                        have c32b0 : (t315.toList == ((⟨#[47, 47]⟩ : ByteArray) ++ a1).toList) = true := beq_iff_eq.mpr c32
                        have c32b1 : (t315.toList != ((⟨#[47, 47]⟩ : ByteArray) ++ a1).toList) = false := bne_eq_false_iff_eq.mpr c32
                        clear c32
                        replace H := Option.bind_eq_some_iff.mp H
                        obtain ⟨⟨t318, t321⟩, A330, H⟩ := H
                        replace H : ((armadalaw09_told.f kj9 t299 t302).bind fun bt322 => ((armadaref09_Same.f kj9 t318 t321 bt322.1 bt322.2).bind fun t326 => (if t326 = true then ((armadalaw09_live.f kj9).bind fun t327 => (some t327)) else (some false)))) = some true := H
                        have A33 := Aside0.mk A330
                        clear A330
                        replace H := Option.bind_eq_some_iff.mp H
                        obtain ⟨⟨t322, t325⟩, A340, H⟩ := H
                        replace H : ((armadaref09_Same.f kj9 t318 t321 t322 t325).bind fun t326 => (if t326 = true then ((armadalaw09_live.f kj9).bind fun t327 => (some t327)) else (some false))) = some true := H
                        have A34 := Aside0.mk A340
                        clear A340
                        replace H := Option.bind_eq_some_iff.mp H
                        obtain ⟨t326, A350, H⟩ := H
                        replace H : (if t326 = true then ((armadalaw09_live.f kj9).bind fun t327 => (some t327)) else (some false)) = some true := H
                        have A35 := Aside0.mk A350
                        clear A350
                        by_cases c36 : t326 = true
                        · subst c36
                          have H1 : ((armadalaw09_live.f kj9).bind fun t327 => (some t327)) = some true := by rw [if_pos rfl] at H; exact H
                          clear H
                          have H := H1
                          clear H1
                          replace H := Option.bind_eq_some_iff.mp H
                          obtain ⟨t327, A370, H⟩ := H
                          replace H : (some t327) = some true := H
                          have A37 := Aside0.mk A370
                          clear A370
                          obtain rfl := Option.some.inj H
                          try go_wp2_with (first | ((with_reducible refine gate_callee (f := 9) rfl ?_); refine goesL_ (some 47) rfl rfl Tryd.func9 (by kernel_rfl) rfl #[.string ((a0 ++ (⟨#[32, 47, 47]⟩ : ByteArray)) ++ a1)] rfl (by (try simp only [List.map_toArray, List.map_cons, List.map_nil]); first | done | rfl | (simp only [List.length_drop, List.length_take]; rfl)) ?_; (with_reducible refine (lex_One.calls ((a0 ++ (⟨#[32, 47, 47]⟩ : ByteArray)) ++ a1) t312 t315 t316 _ A29.out).mono ?_); rintro e w38 ⟨v313, rfl, ho0, hb⟩; refine ⟨_, rfl, ?_⟩; have n0_ := Aside0.mk (Kd.R_elder' (by (with_reducible repeat (first | apply Kd.R_alloc | apply Kd.R_drewN | apply Kd.R_drew)); exact HO_305000.out) (Kd.R_base ho0) hb); have n1_ := Aside0.mk (Kd.R_below (by (with_reducible repeat (first | apply Kd.R_alloc | apply Kd.R_drewN | apply Kd.R_drew)); exact HO_311000.out) hb); have n2_ := Aside0.mk (Kd.R_lower (Kd.R_new' ho0 (Kd.R_lt (by (with_reducible repeat (first | apply Kd.R_alloc | apply Kd.R_drewN | apply Kd.R_drew)); exact HO_305000.out))) (below_size (by repeat (first | (with_reducible first | exact HB.out | apply below_alloc | apply pw_below_drewN | apply below_drew1 | refine below_set ?_ GE304.out | refine below_set ?_ GE310.out) | exact HB.out)))); have n3_ := Aside0.mk (blk_below (g := gb304) (o := .cells #[.slice Ao13 t299.length co13, .string t302] 25 (0, 0)) (by (with_reducible repeat (first | refine blk_drewN ?_ _ | refine blk_drew ?_ | refine blk_alloc ?_ _)); exact BK304.out) hb); have n4_ := Aside0.mk (blk_below (g := gb310) (o := .cells #[.slice Ao17 t305.length co17, .string t308] 31 (0, 0)) (by (with_reducible repeat (first | refine blk_drewN ?_ _ | refine blk_drew ?_ | refine blk_alloc ?_ _)); exact BK310.out) hb); have n5_ := Aside0.mk (below_step (by repeat (first | (with_reducible first | exact HB.out | apply below_alloc | apply pw_below_drewN | apply below_drew1 | refine below_set ?_ GE304.out | refine below_set ?_ GE310.out) | exact HB.out)) hb); clear HO_305000; clear HO_311000; clear BK304; clear BK310; clear HB; have HO_305000 := n0_; have HO_311000 := n1_; have HO314 := n2_; have BK304 := n3_; have BK310 := n4_; have HB := n5_; clear n0_ n1_ n2_ n3_ n4_ n5_; (try clear hb); (try clear hb2); (try clear hk); (try clear hi); (try clear ho0)) | ((with_reducible refine gate_dst (N := 9) rfl ?_); (try (refine gate_guard (by rfl) ?_; dsimp only)); refine box_event ?hg (N := 9) ?hd (cs := #[.slice none 0 0, .string (⟨#[]⟩ : ByteArray)]) (t := 25) ?hr ?_; (case hd => rfl); (case hg => rfl); (case hr => first | (go_simp; done) | (go_simp; rfl)); intro gb317 hg w39 hbox hb; have n0_ := Aside0.mk (Kd.R_below (by (with_reducible repeat (first | apply Kd.R_alloc | apply Kd.R_drewN | apply Kd.R_drew)); exact HO_305000.out) hb); have n1_ := Aside0.mk (Kd.R_below (by (with_reducible repeat (first | apply Kd.R_alloc | apply Kd.R_drewN | apply Kd.R_drew)); exact HO_311000.out) hb); have n2_ := Aside0.mk (Kd.R_below (by (with_reducible repeat (first | apply Kd.R_alloc | apply Kd.R_drewN | apply Kd.R_drew)); exact HO314.out) hb); have n3_ := Aside0.mk (blk_below (g := gb304) (o := .cells #[.slice Ao13 t299.length co13, .string t302] 25 (0, 0)) (by (with_reducible repeat (first | refine blk_drewN ?_ _ | refine blk_drew ?_ | refine blk_alloc ?_ _)); exact BK304.out) hb); have n4_ := Aside0.mk (blk_below (g := gb310) (o := .cells #[.slice Ao17 t305.length co17, .string t308] 31 (0, 0)) (by (with_reducible repeat (first | refine blk_drewN ?_ _ | refine blk_drew ?_ | refine blk_alloc ?_ _)); exact BK310.out) hb); have n5_ := Aside0.mk (below_step (by repeat (first | (with_reducible first | exact HB.out | apply below_alloc | apply pw_below_drewN | apply below_drew1 | refine below_set ?_ GE304.out | refine below_set ?_ GE310.out) | exact HB.out)) hb); have n6_ := Aside0.mk (hbox); have n7_ := Aside0.mk ((by rw [hg]; exact (below_size (by repeat (first | (with_reducible first | exact HB.out | apply below_alloc | apply pw_below_drewN | apply below_drew1 | refine below_set ?_ GE304.out | refine below_set ?_ GE310.out) | exact HB.out))) : w.heap.size ≤ gb317)); have n8_ := Aside0.mk ((by rw [hg]; exact (below_size (by repeat (first | (with_reducible first | exact HB.out | apply below_alloc | apply pw_below_drewN | apply below_drew1 | refine below_set ?_ GE304.out | refine below_set ?_ GE310.out) | exact HB.out))) : w.heap.size ≤ gb317)); have n9_ := Aside0.mk ((by rw [hg]; exact Nat.ne_of_lt (blk_lt (g := gb304) (o := .cells #[.slice Ao13 t299.length co13, .string t302] 25 (0, 0)) (by (with_reducible repeat (first | refine blk_drewN ?_ _ | refine blk_drew ?_ | refine blk_alloc ?_ _)); exact BK304.out)) : gb304 ≠ gb317)); have n10_ := Aside0.mk ((by rw [hg]; exact Nat.ne_of_gt (blk_lt (g := gb304) (o := .cells #[.slice Ao13 t299.length co13, .string t302] 25 (0, 0)) (by (with_reducible repeat (first | refine blk_drewN ?_ _ | refine blk_drew ?_ | refine blk_alloc ?_ _)); exact BK304.out)) : gb317 ≠ gb304)); have n11_ := Aside0.mk ((by rw [hg]; exact Nat.ne_of_lt (blk_lt (g := gb310) (o := .cells #[.slice Ao17 t305.length co17, .string t308] 31 (0, 0)) (by (with_reducible repeat (first | refine blk_drewN ?_ _ | refine blk_drew ?_ | refine blk_alloc ?_ _)); exact BK310.out)) : gb310 ≠ gb317)); have n12_ := Aside0.mk ((by rw [hg]; exact Nat.ne_of_gt (blk_lt (g := gb310) (o := .cells #[.slice Ao17 t305.length co17, .string t308] 31 (0, 0)) (by (with_reducible repeat (first | refine blk_drewN ?_ _ | refine blk_drew ?_ | refine blk_alloc ?_ _)); exact BK310.out)) : gb317 ≠ gb310)); clear HO_305000; clear HO_311000; clear HO314; clear BK304; clear BK310; clear HB; have HO_305000 := n0_; have HO_311000 := n1_; have HO314 := n2_; have BK304 := n3_; have BK310 := n4_; have HB := n5_; have BK317 := n6_; have GW317 := n7_; have GE317 := n8_; have NB304_317 := n9_; have NB317_304 := n10_; have NB310_317 := n11_; have NB317_310 := n12_; clear n0_ n1_ n2_ n3_ n4_ n5_ n6_ n7_ n8_ n9_ n10_ n11_ n12_; clear hb hbox hg; obtain ⟨Ao40, co40, eo40⟩ := Kd.R_slice HO314.out; subst eo40; have hnb41 := NB317_304.out; have hnc41 := NB304_317.out; have hnb42 := NB317_310.out; have hnc42 := NB310_317.out; have hcz43_0 : w39.cell? ⟨gb317, 0, none⟩ = some (.slice none 0 0) := (blk_cell BK317.out 0).trans rfl; have hcz43_1 : w39.cell? ⟨gb317, 1, none⟩ = some (.string (⟨#[]⟩ : ByteArray)) := (blk_cell BK317.out 1).trans rfl; have hfz43_0 := blk_frozen BK317.out 0; have hfz43_1 := blk_frozen BK317.out 1))
                          have n0_ : Aside0 (Kd.R k47 47 ((w39.setCell ⟨gb317, 0, none⟩ (.slice Ao40 t312.length co40)).setCell ⟨gb317, 1, none⟩ (.string t315)) w.heap.size (fun k_ => some k_ ≠ (.slice Ao40 t312.length co40 : Value).ownBlock) (.slice Ao13 t299.length co13) t299) := ⟨by (with_reducible repeat (first | apply Kd.R_alloc | apply Kd.R_drewN | apply Kd.R_drew)); exact Kd.R_mono (Kd.R_far (p := ⟨gb317, 1, none⟩) (Kd.R_far (p := ⟨gb317, 0, none⟩) (Kd.R_types HO_305000.out BK317.out (by decide)) (fun _ hk => hk.2) (.slice Ao40 t312.length co40)) (fun _ hk => hk.2) (.string t315)) (fun _ hk => hk.1.2)⟩
                          have n1_ : Aside0 (Kd.R k58 58 ((w39.setCell ⟨gb317, 0, none⟩ (.slice Ao40 t312.length co40)).setCell ⟨gb317, 1, none⟩ (.string t315)) w.heap.size (fun _ => True) (.slice Ao17 t305.length co17) t305) := ⟨by (with_reducible repeat (first | apply Kd.R_alloc | apply Kd.R_drewN | apply Kd.R_drew)); exact Kd.R_mono (Kd.R_far (p := ⟨gb317, 1, none⟩) (Kd.R_far (p := ⟨gb317, 0, none⟩) (Kd.R_types HO_311000.out BK317.out (by decide)) (fun _ hk => hk.2) (.slice Ao40 t312.length co40)) (fun _ hk => hk.2) (.string t315)) (fun _ hk => trivial)⟩
                          have n2_ : Aside0 (Kd.R k47 47 ((w39.setCell ⟨gb317, 0, none⟩ (.slice Ao40 t312.length co40)).setCell ⟨gb317, 1, none⟩ (.string t315)) w.heap.size (fun k_ => some k_ ≠ (.slice Ao13 t299.length co13 : Value).ownBlock) (.slice Ao40 t312.length co40) t312) := ⟨by (with_reducible repeat (first | apply Kd.R_alloc | apply Kd.R_drewN | apply Kd.R_drew)); exact Kd.R_mono (Kd.R_far (p := ⟨gb317, 1, none⟩) (Kd.R_far (p := ⟨gb317, 0, none⟩) (Kd.R_types HO314.out BK317.out (by decide)) (fun _ hk => hk.2) (.slice Ao40 t312.length co40)) (fun _ hk => hk.2) (.string t315)) (fun _ hk => hk.1.2)⟩
                          have n3_ : Aside0 (((w39.setCell ⟨gb317, 0, none⟩ (.slice Ao40 t312.length co40)).setCell ⟨gb317, 1, none⟩ (.string t315)).heap[gb304]? = some (.cells #[.slice Ao13 t299.length co13, .string t302] 25 (0, 0))) := ⟨by (with_reducible repeat (first | refine blk_drewN ?_ _ | refine blk_drew ?_ | refine blk_alloc ?_ _)); refine blk_far ?_ NB304_317.out _; (with_reducible repeat (first | refine blk_drewN ?_ _ | refine blk_drew ?_ | refine blk_alloc ?_ _)); refine blk_far ?_ NB304_317.out _; (with_reducible repeat (first | refine blk_drewN ?_ _ | refine blk_drew ?_ | refine blk_alloc ?_ _)); exact BK304.out⟩
                          have n4_ : Aside0 (((w39.setCell ⟨gb317, 0, none⟩ (.slice Ao40 t312.length co40)).setCell ⟨gb317, 1, none⟩ (.string t315)).heap[gb310]? = some (.cells #[.slice Ao17 t305.length co17, .string t308] 31 (0, 0))) := ⟨by (with_reducible repeat (first | refine blk_drewN ?_ _ | refine blk_drew ?_ | refine blk_alloc ?_ _)); refine blk_far ?_ NB310_317.out _; (with_reducible repeat (first | refine blk_drewN ?_ _ | refine blk_drew ?_ | refine blk_alloc ?_ _)); refine blk_far ?_ NB310_317.out _; (with_reducible repeat (first | refine blk_drewN ?_ _ | refine blk_drew ?_ | refine blk_alloc ?_ _)); exact BK310.out⟩
                          have n5_ : Aside0 (((w39.setCell ⟨gb317, 0, none⟩ (.slice Ao40 t312.length co40)).setCell ⟨gb317, 1, none⟩ (.string t315)).heap[gb317]? = some (.cells #[.slice Ao40 t312.length co40, .string t315] 25 (0, 0))) := ⟨by (with_reducible repeat (first | refine blk_drewN ?_ _ | refine blk_drew ?_ | refine blk_alloc ?_ _)); refine blk_put (cs := #[.slice Ao40 t312.length co40, .string (⟨#[]⟩ : ByteArray)]) ?_ 1 _ rfl; (with_reducible repeat (first | refine blk_drewN ?_ _ | refine blk_drew ?_ | refine blk_alloc ?_ _)); refine blk_put (cs := #[.slice none 0 0, .string (⟨#[]⟩ : ByteArray)]) ?_ 0 _ rfl; (with_reducible repeat (first | refine blk_drewN ?_ _ | refine blk_drew ?_ | refine blk_alloc ?_ _)); exact BK317.out⟩
                          have n6_ : Aside0 (Below w.heap.size w ((w39.setCell ⟨gb317, 0, none⟩ (.slice Ao40 t312.length co40)).setCell ⟨gb317, 1, none⟩ (.string t315))) := ⟨by repeat (first | (with_reducible first | exact HB.out | apply below_alloc | apply pw_below_drewN | apply below_drew1 | refine below_set ?_ GE304.out | refine below_set ?_ GE310.out | refine below_set ?_ GE317.out) | exact HB.out)⟩
                          (try clear HO_305000)
                          (try clear HO_311000)
                          (try clear HO314)
                          (try clear BK304)
                          (try clear BK310)
                          (try clear BK317)
                          (try clear HB)
                          generalize ((w39.setCell ⟨gb317, 0, none⟩ (.slice Ao40 t312.length co40)).setCell ⟨gb317, 1, none⟩ (.string t315)) = w44 at n0_ n1_ n2_ n3_ n4_ n5_ n6_ ⊢
                          have HO_305000 := n0_
                          have HO_311000 := n1_
                          have HO314 := n2_
                          have BK304 := n3_
                          have BK310 := n4_
                          have BK317 := n5_
                          have HB := n6_
                          clear n0_ n1_ n2_ n3_ n4_ n5_ n6_
                          have n0_ := Aside0.mk (Kd.R_drew HO_305000.out)
                          have n1_ := Aside0.mk (Kd.R_drew HO_311000.out)
                          have n2_ := Aside0.mk (Kd.R_drew HO314.out)
                          have n3_ := Aside0.mk (blk_drew BK304.out)
                          have n4_ := Aside0.mk (blk_drew BK310.out)
                          have n5_ := Aside0.mk (blk_drew BK317.out)
                          have n6_ := Aside0.mk (below_drew1 HB.out)
                          clear HO_305000
                          clear HO_311000
                          clear HO314
                          clear BK304
                          clear BK310
                          clear BK317
                          clear HB
                          have HO_305000 := n0_
                          have HO_311000 := n1_
                          have HO314 := n2_
                          have BK304 := n3_
                          have BK310 := n4_
                          have BK317 := n5_
                          have HB := n6_
                          clear n0_ n1_ n2_ n3_ n4_ n5_ n6_
                          refine start_ (n := 22) (S := fun w' => w'.cell? ⟨gb317, 0, none⟩ = some (.slice Ao40 t312.length co40) ∧ w'.cell? ⟨gb317, 1, none⟩ = some (.string t315) ∧ w'.cell? ⟨gb304, 0, none⟩ = some (.slice Ao13 t299.length co13) ∧ w'.cell? ⟨gb304, 1, none⟩ = some (.string t302)) (ds := []) #[false, false, false, false, false, false, false, false, false, false, false, false, false, false, false, false, false, false, false, false, false, false] (by kernel_rfl) rfl rfl ⟨(blk_cell BK317.out 0).trans rfl, (blk_cell BK317.out 1).trans rfl, (blk_cell BK304.out 0).trans rfl, (blk_cell BK304.out 1).trans rfl⟩ (fun hHeld => ?_); refine with_tabW armadalaw09_LexRemarks.tab8 armadalaw09_LexRemarks.bits8 (fun HT_ HW_ => ?_)
                          generalize w44.drew = w45 at HO_305000 HO_311000 HO314 BK304 BK310 BK317 HB hHeld ⊢
                          refine pure_ (i := 0) (N := some 50) (v := ?_) (a' := ?_) #[true, false, false, false, false, false, false, false, false, false, false, false, false, false, false, false, false, false, false, false, false, false] rfl rfl (any_of HT_.out (by kernel_rfl)) (fun _ _ _ h => h) (Or.inl ⟨by rfl, ?_⟩) ?_ ?_
                          rotate_left
                          · intro w'
                            go_simp
                            with_reducible rfl
                          rotate_left
                          · simp only [Act.put, List.setIfInBounds_toArray, List.set_cons_zero, List.set_cons_succ, i64_w, i32_w]
                            rfl
                          refine pure_ (i := 1) (N := some 51) (v := ?_) (a' := ?_) #[true, true, false, false, false, false, false, false, false, false, false, false, false, false, false, false, false, false, false, false, false, false] rfl rfl (any_of HT_.out (by kernel_rfl)) (fun _ _ _ h => h) (Or.inl ⟨by rfl, ?_⟩) ?_ ?_
                          rotate_left
                          · intro w'
                            go_simp
                            with_reducible rfl
                          rotate_left
                          · simp only [Act.put, List.setIfInBounds_toArray, List.set_cons_zero, List.set_cons_succ, i64_w, i32_w]
                            rfl
                          refine pure_ (i := 2) (N := some 52) (v := ?_) (a' := ?_) #[true, true, true, false, false, false, false, false, false, false, false, false, false, false, false, false, false, false, false, false, false, false] rfl rfl (any_of HT_.out (by kernel_rfl)) (fun _ _ _ h => h) (Or.inl ⟨by rfl, ?_⟩) ?_ ?_
                          rotate_left
                          · intro w'
                            go_simp
                            with_reducible rfl
                          rotate_left
                          · simp only [Act.put, List.setIfInBounds_toArray, List.set_cons_zero, List.set_cons_succ, i64_w, i32_w]
                            rfl
                          refine pure_ (i := 3) (N := some 53) (v := ?_) (a' := ?_) #[true, true, true, true, false, false, false, false, false, false, false, false, false, false, false, false, false, false, false, false, false, false] rfl rfl (any_of HT_.out (by kernel_rfl)) (fun _ _ _ h => h) (Or.inl ⟨by rfl, ?_⟩) ?_ ?_
                          rotate_left
                          · intro w'
                            go_simp
                            with_reducible rfl
                          rotate_left
                          · simp only [Act.put, List.setIfInBounds_toArray, List.set_cons_zero, List.set_cons_succ, i64_w, i32_w]
                            rfl
                          refine pure_ (i := 5) (N := some 55) (v := ?_) (a' := ?_) #[true, true, true, true, false, true, false, false, false, false, false, false, false, false, false, false, false, false, false, false, false, false] rfl rfl (any_of HT_.out (by kernel_rfl)) (fun _ _ _ h => h) (Or.inl ⟨by rfl, ?_⟩) ?_ ?_
                          rotate_left
                          · intro w'
                            go_simp
                            with_reducible rfl
                          rotate_left
                          · simp only [Act.put, List.setIfInBounds_toArray, List.set_cons_zero, List.set_cons_succ, i64_w, i32_w]
                            rfl
                          refine pure_ (i := 6) (N := some 56) (v := ?_) (a' := ?_) #[true, true, true, true, false, true, true, false, false, false, false, false, false, false, false, false, false, false, false, false, false, false] rfl rfl (any_of HT_.out (by kernel_rfl)) (fun _ _ _ h => h) (Or.inl ⟨by rfl, ?_⟩) ?_ ?_
                          rotate_left
                          · intro w'
                            go_simp
                            with_reducible rfl
                          rotate_left
                          · simp only [Act.put, List.setIfInBounds_toArray, List.set_cons_zero, List.set_cons_succ, i64_w, i32_w]
                            rfl
                          refine take_ (i := 4) (N := some 54) (v := ?_) (a' := ?_) #[true, true, true, true, true, true, true, false, false, false, false, false, false, false, false, false, false, false, false, false, false, false] rfl rfl (take_ofW HT_.out HW_.out (by kernel_rfl)) (fun _ _ _ h => h) (Or.inl ⟨by rfl, ?_⟩) hHeld ?_ ?_
                          rotate_left
                          · rintro w' ⟨s0, s1, s2, s3⟩
                            go_simp
                            with_reducible rfl
                          rotate_left
                          · simp only [Act.put, List.setIfInBounds_toArray, List.set_cons_zero, List.set_cons_succ, i64_w, i32_w]
                            rfl
                          refine pure_ (i := 7) (N := some 57) (v := ?_) (a' := ?_) #[true, true, true, true, true, true, true, true, false, false, false, false, false, false, false, false, false, false, false, false, false, false] rfl rfl (any_of HT_.out (by kernel_rfl)) (fun _ _ _ h => h) (Or.inl ⟨by rfl, ?_⟩) ?_ ?_
                          rotate_left
                          · intro w'
                            go_simp
                            with_reducible rfl
                          rotate_left
                          · simp only [Act.put, List.setIfInBounds_toArray, List.set_cons_zero, List.set_cons_succ, i64_w, i32_w]
                            rfl
                          refine pure_ (i := 8) (N := some 58) (v := ?_) (a' := ?_) #[true, true, true, true, true, true, true, true, true, false, false, false, false, false, false, false, false, false, false, false, false, false] rfl rfl (any_of HT_.out (by kernel_rfl)) (fun _ _ _ h => h) (Or.inl ⟨by rfl, ?_⟩) ?_ ?_
                          rotate_left
                          · intro w'
                            go_simp
                            with_reducible rfl
                          rotate_left
                          · simp only [Act.put, List.setIfInBounds_toArray, List.set_cons_zero, List.set_cons_succ, i64_w, i32_w]
                            rfl
                          refine pure_ (i := 9) (N := some 59) (v := ?_) (a' := ?_) #[true, true, true, true, true, true, true, true, true, true, false, false, false, false, false, false, false, false, false, false, false, false] rfl rfl (any_of HT_.out (by kernel_rfl)) (fun _ _ _ h => h) (Or.inl ⟨by rfl, ?_⟩) ?_ ?_
                          rotate_left
                          · intro w'
                            go_simp
                            with_reducible rfl
                          rotate_left
                          · simp only [Act.put, List.setIfInBounds_toArray, List.set_cons_zero, List.set_cons_succ, i64_w, i32_w]
                            rfl
                          refine pure_ (i := 10) (N := some 60) (v := ?_) (a' := ?_) #[true, true, true, true, true, true, true, true, true, true, true, false, false, false, false, false, false, false, false, false, false, false] rfl rfl (any_of HT_.out (by kernel_rfl)) (fun _ _ _ h => h) (Or.inl ⟨by rfl, ?_⟩) ?_ ?_
                          rotate_left
                          · intro w'
                            go_simp
                            with_reducible rfl
                          rotate_left
                          · simp only [Act.put, List.setIfInBounds_toArray, List.set_cons_zero, List.set_cons_succ, i64_w, i32_w]
                            rfl
                          refine take_ (i := 11) (N := some 61) (v := ?_) (a' := ?_) #[true, true, true, true, true, true, true, true, true, true, true, true, false, false, false, false, false, false, false, false, false, false] rfl rfl (take_ofW HT_.out HW_.out (by kernel_rfl)) (fun _ _ _ h => h) (Or.inl ⟨by rfl, ?_⟩) hHeld ?_ ?_
                          rotate_left
                          · rintro w' ⟨s0, s1, s2, s3⟩
                            go_simp
                            with_reducible rfl
                          rotate_left
                          · simp only [Act.put, List.setIfInBounds_toArray, List.set_cons_zero, List.set_cons_succ, i64_w, i32_w]
                            rfl
                          refine pure_ (i := 12) (N := some 62) (v := ?_) (a' := ?_) #[true, true, true, true, true, true, true, true, true, true, true, true, true, false, false, false, false, false, false, false, false, false] rfl rfl (any_of HT_.out (by kernel_rfl)) (fun _ _ _ h => h) (Or.inl ⟨by rfl, ?_⟩) ?_ ?_
                          rotate_left
                          · intro w'
                            go_simp
                            with_reducible rfl
                          rotate_left
                          · simp only [Act.put, List.setIfInBounds_toArray, List.set_cons_zero, List.set_cons_succ, i64_w, i32_w]
                            rfl
                          refine take_ (i := 14) (N := some 64) (v := ?_) (a' := ?_) #[true, true, true, true, true, true, true, true, true, true, true, true, true, false, true, false, false, false, false, false, false, false] rfl rfl (take_ofW HT_.out HW_.out (by kernel_rfl)) (fun _ _ _ h => h) (Or.inl ⟨by rfl, ?_⟩) hHeld ?_ ?_
                          rotate_left
                          · rintro w' ⟨s0, s1, s2, s3⟩
                            go_simp
                            with_reducible rfl
                          rotate_left
                          · simp only [Act.put, List.setIfInBounds_toArray, List.set_cons_zero, List.set_cons_succ, i64_w, i32_w]
                            rfl
                          refine one_ (i := 13) (N := some 63) #[true, true, true, true, true, true, true, true, true, true, true, true, true, true, true, false, false, false, false, false, false, false] rfl rfl (one_of HT_.out (by kernel_rfl)) (by decide) (fun K hK => ?_)
                          refine goes_ Tryd.func14 (by kernel_rfl) rfl #[.agg #[.slice Ao40 t312.length co40, .string (⟨#[]⟩ : ByteArray)]] (by rfl) rfl rfl (by (try simp only [List.map_toArray, List.map_cons, List.map_nil]); first | done | rfl | (simp only [List.length_drop, List.length_take]; rfl)) ?_
                          with_reducible refine (armadalaw09_told.calls kj9 _ _ t312 (⟨#[]⟩ : ByteArray) t318 t321 _ ?side1 ?side2 A33.out).mono ?_
                          (case side1 => repeat (first | exact (Kd.R_reads' HO314.out).2.2 | (with_reducible refine Kd.C_alloc ?_ _) | (with_reducible refine Kd.C_drewN ?_ _) | (with_reducible refine Kd.C_drew ?_)))
                          (case side2 => exact (Kd.R_reads' HO314.out).2.1)
                          rintro e w46 ⟨v319, rfl, ho0, hb⟩
                          refine ⟨_, rfl, ?_⟩
                          have n0_ := Aside0.mk (Kd.R_below (by (with_reducible repeat (first | apply Kd.R_alloc | apply Kd.R_drewN | apply Kd.R_drew)); exact HO_305000.out) hb)
                          have n1_ := Aside0.mk (Kd.R_elder' (by (with_reducible repeat (first | apply Kd.R_alloc | apply Kd.R_drewN | apply Kd.R_drew)); exact HO_311000.out) (Kd.R_base ho0) hb)
                          have n2_ := Aside0.mk (Kd.R_below (by (with_reducible repeat (first | apply Kd.R_alloc | apply Kd.R_drewN | apply Kd.R_drew)); exact HO314.out) hb)
                          have n3_ := Aside0.mk (Kd.R_lower (Kd.R_new' ho0 (Kd.R_lt (by (with_reducible repeat (first | apply Kd.R_alloc | apply Kd.R_drewN | apply Kd.R_drew)); exact HO_311000.out))) (below_size (by repeat (first | (with_reducible first | exact HB.out | apply below_alloc | apply pw_below_drewN | apply below_drew1 | refine below_set ?_ GE304.out | refine below_set ?_ GE310.out | refine below_set ?_ GE317.out) | exact HB.out))))
                          have n4_ := Aside0.mk (blk_below (g := gb304) (o := .cells #[.slice Ao13 t299.length co13, .string t302] 25 (0, 0)) (by (with_reducible repeat (first | refine blk_drewN ?_ _ | refine blk_drew ?_ | refine blk_alloc ?_ _)); exact BK304.out) hb)
                          have n5_ := Aside0.mk (blk_below (g := gb310) (o := .cells #[.slice Ao17 t305.length co17, .string t308] 31 (0, 0)) (by (with_reducible repeat (first | refine blk_drewN ?_ _ | refine blk_drew ?_ | refine blk_alloc ?_ _)); exact BK310.out) hb)
                          have n6_ := Aside0.mk (blk_below (g := gb317) (o := .cells #[.slice Ao40 t312.length co40, .string t315] 25 (0, 0)) (by (with_reducible repeat (first | refine blk_drewN ?_ _ | refine blk_drew ?_ | refine blk_alloc ?_ _)); exact BK317.out) hb)
                          have n7_ := Aside0.mk (below_step (by repeat (first | (with_reducible first | exact HB.out | apply below_alloc | apply pw_below_drewN | apply below_drew1 | refine below_set ?_ GE304.out | refine below_set ?_ GE310.out | refine below_set ?_ GE317.out) | exact HB.out)) hb)
                          clear HO_305000
                          clear HO_311000
                          clear HO314
                          clear BK304
                          clear BK310
                          clear BK317
                          clear HB
                          have HO_305000 := n0_
                          have HO_311000 := n1_
                          have HO314 := n2_
                          have HO320 := n3_
                          have BK304 := n4_
                          have BK310 := n5_
                          have BK317 := n6_
                          have HB := n7_
                          clear n0_ n1_ n2_ n3_ n4_ n5_ n6_ n7_
                          (try clear hb)
                          (try clear hb2)
                          (try clear hk)
                          (try clear hi)
                          (try clear ho0)
                          refine hK.out _ _ ⟨(blk_cell BK317.out 0).trans rfl, (blk_cell BK317.out 1).trans rfl, (blk_cell BK304.out 0).trans rfl, (blk_cell BK304.out 1).trans rfl⟩ (fun hHeld => ?_)
                          clear hK K
                          refine norm_ (a' := ?_) ?_ ?_
                          rotate_left
                          · show Act.put _ (some 63) _ = _
                            simp only [Act.put, List.setIfInBounds_toArray, List.set_cons_zero, List.set_cons_succ, i64_w, i32_w]
                            rfl
                          refine one_ (i := 15) (N := some 65) #[true, true, true, true, true, true, true, true, true, true, true, true, true, true, true, true, false, false, false, false, false, false] rfl rfl (one_of HT_.out (by kernel_rfl)) (by decide) (fun K hK => ?_)
                          refine goes_ Tryd.func14 (by kernel_rfl) rfl #[.agg #[.slice Ao13 t299.length co13, .string t302]] (by rfl) rfl rfl (by (try simp only [List.map_toArray, List.map_cons, List.map_nil]); first | done | rfl | (simp only [List.length_drop, List.length_take]; rfl)) ?_
                          with_reducible refine (armadalaw09_told.calls kj9 _ _ t299 t302 t322 t325 _ ?side1 ?side2 A34.out).mono ?_
                          (case side1 => repeat (first | exact (Kd.R_reads' HO_305000.out).2.2 | (with_reducible refine Kd.C_alloc ?_ _) | (with_reducible refine Kd.C_drewN ?_ _) | (with_reducible refine Kd.C_drew ?_)))
                          (case side2 => exact (Kd.R_reads' HO_305000.out).2.1)
                          rintro e w47 ⟨v323, rfl, ho0, hb⟩
                          refine ⟨_, rfl, ?_⟩
                          have n0_ := Aside0.mk (Kd.R_below (by (with_reducible repeat (first | apply Kd.R_alloc | apply Kd.R_drewN | apply Kd.R_drew)); exact HO_305000.out) hb)
                          have n1_ := Aside0.mk (Kd.R_elder' (by (with_reducible repeat (first | apply Kd.R_alloc | apply Kd.R_drewN | apply Kd.R_drew)); exact HO_311000.out) (Kd.R_base ho0) hb)
                          have n2_ := Aside0.mk (Kd.R_below (by (with_reducible repeat (first | apply Kd.R_alloc | apply Kd.R_drewN | apply Kd.R_drew)); exact HO314.out) hb)
                          have n3_ := Aside0.mk (Kd.R_elder' (by (with_reducible repeat (first | apply Kd.R_alloc | apply Kd.R_drewN | apply Kd.R_drew)); exact HO320.out) (Kd.R_base ho0) hb)
                          have n4_ := Aside0.mk (Kd.R_lower (Kd.R_new' (Kd.R_new' ho0 (Kd.R_lt (by (with_reducible repeat (first | apply Kd.R_alloc | apply Kd.R_drewN | apply Kd.R_drew)); exact HO_311000.out))) (Kd.R_lt (by (with_reducible repeat (first | apply Kd.R_alloc | apply Kd.R_drewN | apply Kd.R_drew)); exact HO320.out))) (below_size (by repeat (first | (with_reducible first | exact HB.out | apply below_alloc | apply pw_below_drewN | apply below_drew1 | refine below_set ?_ GE304.out | refine below_set ?_ GE310.out | refine below_set ?_ GE317.out) | exact HB.out))))
                          have n5_ := Aside0.mk (blk_below (g := gb304) (o := .cells #[.slice Ao13 t299.length co13, .string t302] 25 (0, 0)) (by (with_reducible repeat (first | refine blk_drewN ?_ _ | refine blk_drew ?_ | refine blk_alloc ?_ _)); exact BK304.out) hb)
                          have n6_ := Aside0.mk (blk_below (g := gb310) (o := .cells #[.slice Ao17 t305.length co17, .string t308] 31 (0, 0)) (by (with_reducible repeat (first | refine blk_drewN ?_ _ | refine blk_drew ?_ | refine blk_alloc ?_ _)); exact BK310.out) hb)
                          have n7_ := Aside0.mk (blk_below (g := gb317) (o := .cells #[.slice Ao40 t312.length co40, .string t315] 25 (0, 0)) (by (with_reducible repeat (first | refine blk_drewN ?_ _ | refine blk_drew ?_ | refine blk_alloc ?_ _)); exact BK317.out) hb)
                          have n8_ := Aside0.mk (below_step (by repeat (first | (with_reducible first | exact HB.out | apply below_alloc | apply pw_below_drewN | apply below_drew1 | refine below_set ?_ GE304.out | refine below_set ?_ GE310.out | refine below_set ?_ GE317.out) | exact HB.out)) hb)
                          clear HO_305000
                          clear HO_311000
                          clear HO314
                          clear HO320
                          clear BK304
                          clear BK310
                          clear BK317
                          clear HB
                          have HO_305000 := n0_
                          have HO_311000 := n1_
                          have HO314 := n2_
                          have HO320 := n3_
                          have HO324 := n4_
                          have BK304 := n5_
                          have BK310 := n6_
                          have BK317 := n7_
                          have HB := n8_
                          clear n0_ n1_ n2_ n3_ n4_ n5_ n6_ n7_ n8_
                          (try clear hb)
                          (try clear hb2)
                          (try clear hk)
                          (try clear hi)
                          (try clear ho0)
                          obtain ⟨Ao48, co48, eo48⟩ := Kd.R_slice HO320.out
                          (first | subst eo48 | (injection eo48 with f1_ f2_ f3_; have f4_ := f1_.symm; have f5_ := f3_.symm; clear f1_ f2_ f3_; subst f4_; subst f5_))
                          obtain ⟨Ao49, co49, eo49⟩ := Kd.R_slice HO324.out
                          (first | subst eo49 | (injection eo49 with f1_ f2_ f3_; have f4_ := f1_.symm; have f5_ := f3_.symm; clear f1_ f2_ f3_; subst f4_; subst f5_))
                          refine hK.out _ _ ⟨(blk_cell BK317.out 0).trans rfl, (blk_cell BK317.out 1).trans rfl, (blk_cell BK304.out 0).trans rfl, (blk_cell BK304.out 1).trans rfl⟩ (fun hHeld => ?_)
                          clear hK K
                          refine norm_ (a' := ?_) ?_ ?_
                          rotate_left
                          · show Act.put _ (some 65) _ = _
                            simp only [Act.put, List.setIfInBounds_toArray, List.set_cons_zero, List.set_cons_succ, i64_w, i32_w]
                            rfl
                          refine one_ (i := 16) (N := some 66) #[true, true, true, true, true, true, true, true, true, true, true, true, true, true, true, true, true, false, false, false, false, false] rfl rfl (one_of HT_.out (by kernel_rfl)) (by decide) (fun K hK => ?_)
                          refine goes_ Tryd.func13 (by kernel_rfl) rfl #[.agg #[.slice Ao48 t318.length co48, .string t321], .agg #[.slice Ao49 t322.length co49, .string t325]] (by rfl) rfl rfl (by (try simp only [List.map_toArray, List.map_cons, List.map_nil]); first | done | rfl | (simp only [List.length_drop, List.length_take]; rfl)) ?_
                          with_reducible refine (armadaref09_Same.calls kj9 _ _ t318 t321 _ _ t322 t325 true _ ?side1 ?side2 ?side3 ?side4 A35.out).mono ?_
                          (case side1 => repeat (first | exact (Kd.R_reads' HO320.out).2.2 | (with_reducible refine Kd.C_alloc ?_ _) | (with_reducible refine Kd.C_drewN ?_ _) | (with_reducible refine Kd.C_drew ?_)))
                          (case side2 => exact (Kd.R_reads' HO320.out).2.1)
                          (case side3 => repeat (first | exact (Kd.R_reads' HO324.out).2.2 | (with_reducible refine Kd.C_alloc ?_ _) | (with_reducible refine Kd.C_drewN ?_ _) | (with_reducible refine Kd.C_drew ?_)))
                          (case side4 => exact (Kd.R_reads' HO324.out).2.1)
                          rintro e w50 ⟨rfl, hb⟩
                          refine ⟨_, rfl, ?_⟩
                          have n0_ := Aside0.mk (Kd.R_below (by (with_reducible repeat (first | apply Kd.R_alloc | apply Kd.R_drewN | apply Kd.R_drew)); exact HO_305000.out) hb)
                          have n1_ := Aside0.mk (Kd.R_below (by (with_reducible repeat (first | apply Kd.R_alloc | apply Kd.R_drewN | apply Kd.R_drew)); exact HO_311000.out) hb)
                          have n2_ := Aside0.mk (Kd.R_below (by (with_reducible repeat (first | apply Kd.R_alloc | apply Kd.R_drewN | apply Kd.R_drew)); exact HO314.out) hb)
                          have n3_ := Aside0.mk (Kd.R_below (by (with_reducible repeat (first | apply Kd.R_alloc | apply Kd.R_drewN | apply Kd.R_drew)); exact HO320.out) hb)
                          have n4_ := Aside0.mk (Kd.R_below (by (with_reducible repeat (first | apply Kd.R_alloc | apply Kd.R_drewN | apply Kd.R_drew)); exact HO324.out) hb)
                          have n5_ := Aside0.mk (blk_below (g := gb304) (o := .cells #[.slice Ao13 t299.length co13, .string t302] 25 (0, 0)) (by (with_reducible repeat (first | refine blk_drewN ?_ _ | refine blk_drew ?_ | refine blk_alloc ?_ _)); exact BK304.out) hb)
                          have n6_ := Aside0.mk (blk_below (g := gb310) (o := .cells #[.slice Ao17 t305.length co17, .string t308] 31 (0, 0)) (by (with_reducible repeat (first | refine blk_drewN ?_ _ | refine blk_drew ?_ | refine blk_alloc ?_ _)); exact BK310.out) hb)
                          have n7_ := Aside0.mk (blk_below (g := gb317) (o := .cells #[.slice Ao40 t312.length co40, .string t315] 25 (0, 0)) (by (with_reducible repeat (first | refine blk_drewN ?_ _ | refine blk_drew ?_ | refine blk_alloc ?_ _)); exact BK317.out) hb)
                          have n8_ := Aside0.mk (below_step (by repeat (first | (with_reducible first | exact HB.out | apply below_alloc | apply pw_below_drewN | apply below_drew1 | refine below_set ?_ GE304.out | refine below_set ?_ GE310.out | refine below_set ?_ GE317.out) | exact HB.out)) hb)
                          clear HO_305000
                          clear HO_311000
                          clear HO314
                          clear HO320
                          clear HO324
                          clear BK304
                          clear BK310
                          clear BK317
                          clear HB
                          have HO_305000 := n0_
                          have HO_311000 := n1_
                          have HO314 := n2_
                          have HO320 := n3_
                          have HO324 := n4_
                          have BK304 := n5_
                          have BK310 := n6_
                          have BK317 := n7_
                          have HB := n8_
                          clear n0_ n1_ n2_ n3_ n4_ n5_ n6_ n7_ n8_
                          (try clear hb)
                          (try clear hb2)
                          (try clear hk)
                          (try clear hi)
                          refine hK.out _ _ ⟨(blk_cell BK317.out 0).trans rfl, (blk_cell BK317.out 1).trans rfl, (blk_cell BK304.out 0).trans rfl, (blk_cell BK304.out 1).trans rfl⟩ (fun hHeld => ?_)
                          clear hK K
                          refine norm_ (a' := ?_) ?_ ?_
                          rotate_left
                          · show Act.put _ (some 66) _ = _
                            simp only [Act.put, List.setIfInBounds_toArray, List.set_cons_zero, List.set_cons_succ, i64_w, i32_w]
                            rfl
                          refine pure_ (i := 17) (N := some 67) (v := ?_) (a' := ?_) #[true, true, true, true, true, true, true, true, true, true, true, true, true, true, true, true, true, true, false, false, false, false] rfl rfl (any_of HT_.out (by kernel_rfl)) (fun _ _ _ h => h) (Or.inl ⟨by rfl, ?_⟩) ?_ ?_
                          rotate_left
                          · intro w'
                            go_simp
                            with_reducible rfl
                          rotate_left
                          · simp only [Act.put, List.setIfInBounds_toArray, List.set_cons_zero, List.set_cons_succ, i64_w, i32_w]
                            rfl
                          refine pure_ (i := 18) (N := some 68) (v := ?_) (a' := ?_) #[true, true, true, true, true, true, true, true, true, true, true, true, true, true, true, true, true, true, true, false, false, false] rfl rfl (any_of HT_.out (by kernel_rfl)) (fun _ _ _ h => h) (Or.inl ⟨by rfl, ?_⟩) ?_ ?_
                          rotate_left
                          · intro w'
                            go_simp
                            with_reducible rfl
                          rotate_left
                          · simp only [Act.put, List.setIfInBounds_toArray, List.set_cons_zero, List.set_cons_succ, i64_w, i32_w]
                            rfl
                          refine one_ (i := 19) (N := some 69) #[true, true, true, true, true, true, true, true, true, true, true, true, true, true, true, true, true, true, true, true, false, false] rfl rfl (one_of HT_.out (by kernel_rfl)) (by decide) (fun K hK => ?_)
                          refine goes_ Tryd.func8 (by kernel_rfl) rfl #[] (by rfl) rfl rfl (by (try simp only [List.map_toArray, List.map_cons, List.map_nil]); first | done | rfl | (simp only [List.length_drop, List.length_take]; rfl)) ?_
                          with_reducible refine (armadalaw09_live.calls kj9  true _ A37.out).mono ?_
                          rintro e w51 ⟨rfl, hb⟩
                          refine ⟨_, rfl, ?_⟩
                          have n0_ := Aside0.mk (Kd.R_below (by (with_reducible repeat (first | apply Kd.R_alloc | apply Kd.R_drewN | apply Kd.R_drew)); exact HO_305000.out) hb)
                          have n1_ := Aside0.mk (Kd.R_below (by (with_reducible repeat (first | apply Kd.R_alloc | apply Kd.R_drewN | apply Kd.R_drew)); exact HO_311000.out) hb)
                          have n2_ := Aside0.mk (Kd.R_below (by (with_reducible repeat (first | apply Kd.R_alloc | apply Kd.R_drewN | apply Kd.R_drew)); exact HO314.out) hb)
                          have n3_ := Aside0.mk (Kd.R_below (by (with_reducible repeat (first | apply Kd.R_alloc | apply Kd.R_drewN | apply Kd.R_drew)); exact HO320.out) hb)
                          have n4_ := Aside0.mk (Kd.R_below (by (with_reducible repeat (first | apply Kd.R_alloc | apply Kd.R_drewN | apply Kd.R_drew)); exact HO324.out) hb)
                          have n5_ := Aside0.mk (blk_below (g := gb304) (o := .cells #[.slice Ao13 t299.length co13, .string t302] 25 (0, 0)) (by (with_reducible repeat (first | refine blk_drewN ?_ _ | refine blk_drew ?_ | refine blk_alloc ?_ _)); exact BK304.out) hb)
                          have n6_ := Aside0.mk (blk_below (g := gb310) (o := .cells #[.slice Ao17 t305.length co17, .string t308] 31 (0, 0)) (by (with_reducible repeat (first | refine blk_drewN ?_ _ | refine blk_drew ?_ | refine blk_alloc ?_ _)); exact BK310.out) hb)
                          have n7_ := Aside0.mk (blk_below (g := gb317) (o := .cells #[.slice Ao40 t312.length co40, .string t315] 25 (0, 0)) (by (with_reducible repeat (first | refine blk_drewN ?_ _ | refine blk_drew ?_ | refine blk_alloc ?_ _)); exact BK317.out) hb)
                          have n8_ := Aside0.mk (below_step (by repeat (first | (with_reducible first | exact HB.out | apply below_alloc | apply pw_below_drewN | apply below_drew1 | refine below_set ?_ GE304.out | refine below_set ?_ GE310.out | refine below_set ?_ GE317.out) | exact HB.out)) hb)
                          clear HO_305000
                          clear HO_311000
                          clear HO314
                          clear HO320
                          clear HO324
                          clear BK304
                          clear BK310
                          clear BK317
                          clear HB
                          have HO_305000 := n0_
                          have HO_311000 := n1_
                          have HO314 := n2_
                          have HO320 := n3_
                          have HO324 := n4_
                          have BK304 := n5_
                          have BK310 := n6_
                          have BK317 := n7_
                          have HB := n8_
                          clear n0_ n1_ n2_ n3_ n4_ n5_ n6_ n7_ n8_
                          (try clear hb)
                          (try clear hb2)
                          (try clear hk)
                          (try clear hi)
                          refine hK.out _ _ ⟨(blk_cell BK317.out 0).trans rfl, (blk_cell BK317.out 1).trans rfl, (blk_cell BK304.out 0).trans rfl, (blk_cell BK304.out 1).trans rfl⟩ (fun hHeld => ?_)
                          clear hK K
                          refine norm_ (a' := ?_) ?_ ?_
                          rotate_left
                          · show Act.put _ (some 69) _ = _
                            simp only [Act.put, List.setIfInBounds_toArray, List.set_cons_zero, List.set_cons_succ, i64_w, i32_w]
                            rfl
                          refine pure_ (i := 20) (N := some 70) (v := ?_) (a' := ?_) #[true, true, true, true, true, true, true, true, true, true, true, true, true, true, true, true, true, true, true, true, true, false] rfl rfl (any_of HT_.out (by kernel_rfl)) (fun _ _ _ h => h) (Or.inl ⟨by rfl, ?_⟩) ?_ ?_
                          rotate_left
                          · intro w'
                            go_simp
                            with_reducible rfl
                          rotate_left
                          · simp only [Act.put, List.setIfInBounds_toArray, List.set_cons_zero, List.set_cons_succ, i64_w, i32_w]
                            rfl
                          refine pure_ (i := 21) (N := some 4) (v := ?_) (a' := ?_) #[true, true, true, true, true, true, true, true, true, true, true, true, true, true, true, true, true, true, true, true, true, true] rfl rfl (any_of HT_.out (by kernel_rfl)) (fun _ _ _ h => h) (Or.inl ⟨by rfl, ?_⟩) ?_ ?_
                          rotate_left
                          · intro w'
                            go_simp
                            with_reducible rfl
                          rotate_left
                          · simp only [Act.put, List.setIfInBounds_toArray, List.set_cons_zero, List.set_cons_succ, i64_w, i32_w]
                            rfl
                          refine done_ (done_of HT_.out (by kernel_rfl)) ?_
                          try go_wp2
                          go_ret
                          exact ⟨by first | rfl | (simp [errW_none, errW_some] <;> rfl) | (simp [*, errW_none, errW_some] <;> rfl), by repeat (first | (with_reducible first | exact HB.out | apply below_alloc | apply pw_below_drewN | apply below_drew1 | refine below_set ?_ GE304.out | refine below_set ?_ GE310.out | refine below_set ?_ GE317.out) | exact HB.out)⟩
                        · replace c36 := Bool.eq_false_iff.mpr c36
                          subst c36
                          have H1 : (some false) = some true := by rw [if_neg (show ¬ (false = true) by decide)] at H; exact H
                          clear H
                          have H := H1
                          clear H1
                          exact absurd H (by simp)
                      · rw [if_neg c32] at H
                        have c32b0 : (t315.toList == ((⟨#[47, 47]⟩ : ByteArray) ++ a1).toList) = false := beq_eq_false_iff_ne.mpr c32
                        have c32b1 : (t315.toList != ((⟨#[47, 47]⟩ : ByteArray) ++ a1).toList) = true := bne_iff_ne.mpr c32
                        exact absurd H (by simp)
                    · rw [if_neg c31] at H
                      exact absurd H (by simp)
                  · rw [if_neg c30] at H
                    have c30b0 : (t316 == 0) = false := beq_eq_false_iff_ne.mpr c30
                    have c30b1 : (t316 != 0) = true := bne_iff_ne.mpr c30
                    exact absurd H (by simp)
                · rw [if_neg c28] at H
                  exact absurd H (by simp)
              · rw [if_neg c27] at H
                exact absurd H (by simp)
/-- THE ONE PURE STATEMENT of armadalaw09_LexRemarks: yours. -/
def armadalaw09_LexRemarks.Pure : Prop := ∀ (a0 : ByteArray) (a1 : ByteArray), a0.size ≤ 140737488351232 → a1.size ≤ 140737488351232 → ∃ k, armadalaw09_LexRemarks.f k a0 a1 = some true
theorem armadalaw09_LexRemarks.walk (P : armadalaw09_LexRemarks.Pure) (a0 : ByteArray) (a1 : ByteArray) (w : World) (w0 : a0.size ≤ 140737488351232) (w1 : a1.size ≤ 140737488351232) :
    Calls Tryd.prog 7 #[.string a0, .string a1] w fun e w' => e = .returned (.bool true) ∧ Below w.heap.size w w' := by
  obtain ⟨k, h⟩ := P a0 a1 w0 w1
  refine (armadalaw09_LexRemarks.calls k a0 a1 true w h).mono ?_
  rintro e w' ⟨rfl, hd⟩
  exact ⟨rfl, hd⟩
end Go.Proofs.YtonjofjdmlblfaaDoor.P
