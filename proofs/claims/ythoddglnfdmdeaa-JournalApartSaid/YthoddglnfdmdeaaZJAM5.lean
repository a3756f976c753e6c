/- Printed functions, merged. -/
import Derived.Test.YthoddglnfdmdeaaZJAM0
import Derived.Test.YthoddglnfdmdeaaZJAH3
import Derived.Test.YthoddglnfdmdeaaZJAM4
import Derived.Test.YthoddglnfdmdeaaZJAH4
import Derived.Test.YthoddglnfdmdeaaZJAAl
namespace Go.Proofs.Ythoddglnfdmdeaa.P
open Go.RowKit Go.Proofs.YthoddglnfdmdeaaW.PrintWords Go.Proofs.YthoddglnfdmdeaaW.PrintLast Go.Proofs.YthoddglnfdmdeaaW.PrintMore
attribute [local go_sem] max2_int min2_int max_two min_two max_three min_three max_four min_four   -- for this text's walks alone
set_option linter.unusedVariables false
set_option linter.unusedSimpArgs false
def rec_Read.f (k : Nat) (a0 : ByteArray) : Option (Int × Int × Int × Int × Int × Bool) := if (a0.size : Int) = 32 then (if 1 < (a0.size : Int) then ((rec_number.f k a0 0).bind fun t158 => ((rec_number.f k a0 1).bind fun t159 => ((rec_number.f k a0 2).bind fun t160 => ((rec_number.f k a0 3).bind fun t161 => ((rec_Head_Text.f k (wrap64 (bt a0 1)) t158 t159 t160 t161).bind fun bt163 => (if bt163.2 = true then (if bt163.1.toList = a0.toList then (some (wrap64 (bt a0 1), t158, t159, t160, t161, true)) else (some (0, 0, 0, 0, 0, false))) else (some (0, 0, 0, 0, 0, false)))))))) else (none)) else (some (0, 0, 0, 0, 0, false))
theorem rec_Read.mono : ∀ a0 k, LeO (rec_Read.f k a0) (rec_Read.f (k + 1) a0) := by
 intro a0 k
 unfold rec_Read.f
 repeat' first
   | (with_reducible exact rec_Head_Text.mono _ _ _ _ _ _)
   | (with_reducible exact rec_number.mono _ _ _)
   | (with_reducible exact LeO.refl _)
   | (with_reducible exact LeO.none _)
   | (with_reducible refine LeO.ite ?_ ?_)
   | (with_reducible refine LeO.bind ?_ (fun _ => ?_))
   | exact rec_Head_Text.mono _ _ _ _ _ _
   | exact rec_number.mono _ _ _
   | exact LeO.none _
   | refine LeO.ite ?_ ?_
   | refine LeO.bind ?_ (fun _ => ?_)
def rec_Read.T3 : Bool × List (List Nat × List Nat) := (true, [([], []), ([0], [0]), ([1], [1]), ([], []), ([3], [3]), ([], []), ([5, 4], [5]), ([], []), ([7, 6], [7]), ([], []), ([9, 8], [9]), ([2, 4, 6, 8, 10], [2, 4, 6, 8, 10]), ([], []), ([12, 11, 10, 0, 1, 2, 3, 4, 5, 6, 7, 8, 9, 10, 11, 12], [11, 12])])
def rec_Read.B3 : List Nat := [0, 1, 3, 0, 8, 0, 56, 0, 248, 0, 1016, 2047, 0, 8191]
theorem rec_Read.tab3 : rtab .any (opsOf Try.f53 3) = rec_Read.T3 := by kernel_rfl
theorem rec_Read.bits3 : waitsOk rec_Read.T3.2 rec_Read.B3 = true := by kernel_rfl
set_option maxHeartbeats 8000000 in
set_option maxRecDepth 100000 in
theorem rec_Read.calls (k : Nat) (a0 : ByteArray) (r1 : Int) (r2 : Int) (r3 : Int) (r4 : Int) (r5 : Int) (r6 : Bool) (w : World) (h : rec_Read.f k a0 = some (r1, r2, r3, r4, r5, r6)) :
  Calls Try.prog 53 #[.string a0] w fun e w' => e = .returned (.tuple #[.agg #[.int .i64 r1, .int .i64 r2, .int .i64 r3, .int .i64 r4, .int .i64 r5], .bool r6]) ∧ Below w.heap.size w w' := by
 have hu73 := Try.underlying73
 have HB := Aside0.mk (Below.refl w.heap.size w)
 have H := h
 unfold rec_Read.f at H
 clear h
 by_cases c2 : (a0.size : Int) = 32
 ·rw [if_pos c2] at H
  have c2b0 : ((a0.size : Int) == 32) = true := beq_iff_eq.mpr c2
  have c2b1 : ((a0.size : Int) != 32) = false := bne_eq_false_iff_eq.mpr c2
  clear c2
  by_cases c3 : 1 < (a0.size : Int)
  ·rw [if_pos c3] at H
   have c3b0 : decide (1 < (a0.size : Int)) = true := decide_eq_true c3
   have c3b1 : decide (1 < a0.size) = true := decide_eq_true (by omega)
   clear c3
   replace H := Option.bind_eq_some_iff.mp H
   obtain ⟨t158, A50, H⟩ := H
   try dsimp only at H
   have A5 := Aside0.mk A50
   clear A50
   replace H := Option.bind_eq_some_iff.mp H
   obtain ⟨t159, A60, H⟩ := H
   try dsimp only at H
   have A6 := Aside0.mk A60
   clear A60
   replace H := Option.bind_eq_some_iff.mp H
   obtain ⟨t160, A70, H⟩ := H
   try dsimp only at H
   have A7 := Aside0.mk A70
   clear A70
   replace H := Option.bind_eq_some_iff.mp H
   obtain ⟨t161, A80, H⟩ := H
   try dsimp only at H
   have A8 := Aside0.mk A80
   clear A80
   replace H := Option.bind_eq_some_iff.mp H
   obtain ⟨⟨t163, t164⟩, A90, H⟩ := H
   try dsimp only at H
   have A9 := Aside0.mk A90
   clear A90
   by_cases c10 : t164 = true
   ·subst c10
    rw [if_pos rfl] at H
    by_cases c11 : t163.toList = a0.toList
    ·rw [if_pos c11] at H
     have c11b0 : (t163.toList == a0.toList) = true := beq_iff_eq.mpr c11
     have c11b1 : (t163.toList != a0.toList) = false := bne_eq_false_iff_eq.mpr c11
     clear c11
     simp only [Option.some.injEq, Prod.mk.injEq] at H
     obtain ⟨rfl, rfl, rfl, rfl, rfl, rfl⟩ := H
     go_enter Try.func53, Try.ntmps53
     try go_wp2_with (first | ((with_reducible refine gate_dst (N := 2) rfl ?_); refine bE (N := 2) (cs := #[.int .i64 0, .int .i64 0, .int .i64 0, .int .i64 0, .int .i64 0]) (t := 73) ?_; intro gb157 hg w12 hbox hb; have hz_ := zqA HB hb; replace hb := below_step hz_ hb; have BK157 := Aside0.mk hbox; have GE157 := zG HB hz_ hg; replace HB := zH HB hb; clear hz_; clear hb hbox hg))
     replace BK157 := Aside0.mk (xD_ BK157.out)
     replace HB := Aside0.mk (yD_ HB.out)
     have p4 : 0 ≤ (1 : Int) := (by omega)
     have q4 : 1 < a0.size := (by have : (1 : Int) < (a0.size : Int) := of_decide_eq_true aS; omega)
     have hx4 : ∀ h : 1 < a0.size, ((a0[1]'h).toNat : Int) = bt a0 1 := bt_at a0 1
     clear p4
     have qi4 : (1 < (a0.size : Int)) = True := eq_true (of_decide_eq_true aS)
     replace q4 := eq_true q4
     refine start_ (n := 14) (S := fun w' => True) (ds := []) #[F_,F_,F_,F_,F_,F_,F_,F_,F_,F_,F_,F_,F_,F_] (by kernel_rfl) rfl rfl trivial (fun hHeld => ?_); refine with_tabW rec_Read.tab3 rec_Read.bits3 (fun HT_ HW_ => ?_)
     generalize w12.drew = w13 at BK157 HB hHeld ⊢
     refine pU 0 (some 11) #[T_,F_,F_,F_,F_,F_,F_,F_,F_,F_,F_,F_,F_,F_] HT_ ?_
     refine pU 3 (some 14) #[T_,F_,F_,T_,F_,F_,F_,F_,F_,F_,F_,F_,F_,F_] HT_ ?_
     refine pU 5 (some 16) #[T_,F_,F_,T_,F_,T_,F_,F_,F_,F_,F_,F_,F_,F_] HT_ ?_
     refine pU 7 (some 18) #[T_,F_,F_,T_,F_,T_,F_,T_,F_,F_,F_,F_,F_,F_] HT_ ?_
     refine pU 9 (some 20) #[T_,F_,F_,T_,F_,T_,F_,T_,F_,T_,F_,F_,F_,F_] HT_ ?_
     refine take_ (i := 1) (N := some 12) (v := ?_) (a' := ?_) #[T_,T_,F_,T_,F_,T_,F_,T_,F_,T_,F_,F_,F_,F_] rfl rfl (take_ofW HT_.out HW_.out (by kernel_rfl)) (fun _ _ _ h => h) (Or.inl ⟨by rfl, ?_⟩) hHeld ?_ ?_
     rotate_left
     ·intro w' _
      go_simp
      with_reducible rfl
     rotate_left
     ·simp only [Act.put, List.setIfInBounds_toArray, List.set_cons_zero, List.set_cons_succ, i64_w, i32_w]
      rfl
     refine pU 2 (some 13) #[T_,T_,T_,T_,F_,T_,F_,T_,F_,T_,F_,F_,F_,F_] HT_ ?_
     refine join_ (σ := Nat) 1 #[T_,T_,T_,T_,T_,T_,T_,T_,T_,T_,T_,T_,T_,F_] (fun s_ => [(15, .int .i64 t158), (17, .int .i64 t159), (19, .int .i64 t160), (21, .int .i64 t161), (4, .pointer (some ⟨s_, 0, none⟩)), (22, .agg #[.int .i64 (wrap64 (bt a0 1)), .int .i64 t158, .int .i64 t159, .int .i64 t160, .int .i64 t161])]) (fun s_ w' => (w'.heap[gb157]? = some (.cells #[.int .i64 0, .int .i64 0, .int .i64 0, .int .i64 0, .int .i64 0] 73 (0, 0))) ∧ (w'.heap[s_]? = some (.cells #[.int .i64 0, .int .i64 0, .int .i64 0, .int .i64 0, .int .i64 0] 73 (0, 0))) ∧ (w.heap.size ≤ s_) ∧ (w.heap.size ≤ s_) ∧ (gb157 ≠ s_) ∧ (s_ ≠ gb157) ∧ (Below w.heap.size w w')) ?_ ?_
     rotate_left
     ·intro hJ4_6_8_10_12
      refine join_ (σ := Unit) 2 #[T_,T_,T_,T_,T_,T_,T_,T_,T_,T_,T_,T_,F_,F_] (fun s_ => [(15, .int .i64 t158), (17, .int .i64 t159), (19, .int .i64 t160), (21, .int .i64 t161), (22, .agg #[.int .i64 (wrap64 (bt a0 1)), .int .i64 t158, .int .i64 t159, .int .i64 t160, .int .i64 t161])]) (fun s_ w' => (w'.heap[gb157]? = some (.cells #[.int .i64 0, .int .i64 0, .int .i64 0, .int .i64 0, .int .i64 0] 73 (0, 0))) ∧ (Below w.heap.size w w')) ?_ ?_
      rotate_left
      ·intro hJ4_6_8_10
       refine join_ (σ := Nat) 3 #[T_,T_,T_,T_,T_,T_,T_,T_,T_,T_,F_,F_,T_,F_] (fun s_ => [(15, .int .i64 t158), (17, .int .i64 t159), (19, .int .i64 t160), (4, .pointer (some ⟨s_, 0, none⟩))]) (fun s_ w' => (w'.heap[gb157]? = some (.cells #[.int .i64 0, .int .i64 0, .int .i64 0, .int .i64 0, .int .i64 0] 73 (0, 0))) ∧ (w'.heap[s_]? = some (.cells #[.int .i64 0, .int .i64 0, .int .i64 0, .int .i64 0, .int .i64 0] 73 (0, 0))) ∧ (w.heap.size ≤ s_) ∧ (w.heap.size ≤ s_) ∧ (gb157 ≠ s_) ∧ (s_ ≠ gb157) ∧ (Below w.heap.size w w')) ?_ ?_
       rotate_left
       ·intro hJ4_6_8_12
        refine join_ (σ := Unit) 4 #[T_,T_,T_,T_,T_,T_,T_,T_,T_,T_,F_,F_,F_,F_] (fun s_ => [(15, .int .i64 t158), (17, .int .i64 t159), (19, .int .i64 t160)]) (fun s_ w' => (w'.heap[gb157]? = some (.cells #[.int .i64 0, .int .i64 0, .int .i64 0, .int .i64 0, .int .i64 0] 73 (0, 0))) ∧ (Below w.heap.size w w')) ?_ ?_
        rotate_left
        ·intro hJ4_6_8
         refine join_ (σ := Nat) 4 #[T_,T_,T_,T_,T_,T_,T_,T_,F_,T_,F_,F_,T_,F_] (fun s_ => [(15, .int .i64 t158), (17, .int .i64 t159), (4, .pointer (some ⟨s_, 0, none⟩))]) (fun s_ w' => (w'.heap[gb157]? = some (.cells #[.int .i64 0, .int .i64 0, .int .i64 0, .int .i64 0, .int .i64 0] 73 (0, 0))) ∧ (w'.heap[s_]? = some (.cells #[.int .i64 0, .int .i64 0, .int .i64 0, .int .i64 0, .int .i64 0] 73 (0, 0))) ∧ (w.heap.size ≤ s_) ∧ (w.heap.size ≤ s_) ∧ (gb157 ≠ s_) ∧ (s_ ≠ gb157) ∧ (Below w.heap.size w w')) ?_ ?_
         rotate_left
         ·intro hJ4_6_12
          refine join_ (σ := Unit) 5 #[T_,T_,T_,T_,T_,T_,T_,T_,F_,T_,F_,F_,F_,F_] (fun s_ => [(15, .int .i64 t158), (17, .int .i64 t159)]) (fun s_ w' => (w'.heap[gb157]? = some (.cells #[.int .i64 0, .int .i64 0, .int .i64 0, .int .i64 0, .int .i64 0] 73 (0, 0))) ∧ (Below w.heap.size w w')) ?_ ?_
          rotate_left
          ·intro hJ4_6
           refine join_ (σ := Nat) 5 #[T_,T_,T_,T_,T_,T_,F_,T_,F_,T_,F_,F_,T_,F_] (fun s_ => [(15, .int .i64 t158), (4, .pointer (some ⟨s_, 0, none⟩))]) (fun s_ w' => (w'.heap[gb157]? = some (.cells #[.int .i64 0, .int .i64 0, .int .i64 0, .int .i64 0, .int .i64 0] 73 (0, 0))) ∧ (w'.heap[s_]? = some (.cells #[.int .i64 0, .int .i64 0, .int .i64 0, .int .i64 0, .int .i64 0] 73 (0, 0))) ∧ (w.heap.size ≤ s_) ∧ (w.heap.size ≤ s_) ∧ (gb157 ≠ s_) ∧ (s_ ≠ gb157) ∧ (Below w.heap.size w w')) ?_ ?_
           rotate_left
           ·intro hJ4_12
            refine join_ (σ := Unit) 6 #[T_,T_,T_,T_,T_,T_,F_,T_,F_,T_,F_,F_,F_,F_] (fun s_ => [(15, .int .i64 t158)]) (fun s_ w' => (w'.heap[gb157]? = some (.cells #[.int .i64 0, .int .i64 0, .int .i64 0, .int .i64 0, .int .i64 0] 73 (0, 0))) ∧ (Below w.heap.size w w')) ?_ ?_
            rotate_left
            ·intro hJ4
             refine join_ (σ := Nat) 6 #[T_,T_,T_,T_,F_,T_,F_,T_,F_,T_,F_,F_,T_,F_] (fun s_ => [(4, .pointer (some ⟨s_, 0, none⟩))]) (fun s_ w' => (w'.heap[gb157]? = some (.cells #[.int .i64 0, .int .i64 0, .int .i64 0, .int .i64 0, .int .i64 0] 73 (0, 0))) ∧ (w'.heap[s_]? = some (.cells #[.int .i64 0, .int .i64 0, .int .i64 0, .int .i64 0, .int .i64 0] 73 (0, 0))) ∧ (w.heap.size ≤ s_) ∧ (w.heap.size ≤ s_) ∧ (gb157 ≠ s_) ∧ (s_ ≠ gb157) ∧ (Below w.heap.size w w')) ?_ ?_
             rotate_left
             ·intro hJ12
              refine two_ (i := 4) (j := 12) (Ni := some 15) (Nj := some 4) #[T_,T_,T_,T_,T_,T_,F_,T_,F_,T_,F_,F_,F_,F_] #[T_,T_,T_,T_,F_,T_,F_,T_,F_,T_,F_,F_,T_,F_] rfl rfl rfl rfl (two_of HT_.out (by kernel_rfl)) (by decide) (by decide) (fun K hK => ?_) (fun K hK => ?_)
              ·skip
               refine gO Try.func71 #[.string a0, .int .i64 0] ?_
               with_reducible refine (rec_number.calls k a0 0 t158 _ A5.out).mono ?_
               rintro e w' ⟨rfl, ⟨nd, rfl⟩⟩
               refine ⟨_, rfl, ?_⟩
               refine hK.out _ _ trivial (fun hHeld => ?_)
               clear hK K
               refine nS (some 15) ?_
               exact norm_ (nP) (hJ4 () _ ⟨(qB BK157), qH⟩)
              ·skip
               refine box_step ?hg (N := 4) ?hd (cs := #[.int .i64 0, .int .i64 0, .int .i64 0, .int .i64 0, .int .i64 0]) (t := 73) ?hr ?_; (case hd => rfl); (case hg => rfl); (case hr => first | (go_simp; done) | (go_simp; rfl))
               intro gb162 hg w14 hbox hb
               have hz_ := zqA HB hb
               replace hb := below_step hz_ hb
               have BK162 := Aside0.mk hbox
               have GW162 := zG HB hz_ hg
               have GE162 := zG HB hz_ hg
               have NB157_162 := zN BK157 hz_ hg
               have NB162_157 := zM BK157 hz_ hg
               replace BK157 := zB BK157 hb
               replace HB := zH HB hb
               clear hz_
               clear hb hbox hg
               refine hK.out _ _ trivial (fun hHeld => ?_)
               clear hK K
               refine nS (some 4) ?_
               exact norm_ (nP) (hJ12 (gb162) _ ⟨(qB BK157), (qB BK162), GW162.out, GE162.out, NB157_162.out, NB162_157.out, qH⟩)
             ·skip
              rintro gb162 w15 ⟨h0_, h1_, h2_, h3_, h4_, h5_, h6_⟩
              have n0_ : Aside0 (w15.heap[gb157]? = some (.cells #[.int .i64 0, .int .i64 0, .int .i64 0, .int .i64 0, .int .i64 0] 73 (0, 0))) := ⟨h0_⟩
              have n1_ : Aside0 (w15.heap[gb162]? = some (.cells #[.int .i64 0, .int .i64 0, .int .i64 0, .int .i64 0, .int .i64 0] 73 (0, 0))) := ⟨h1_⟩
              have n2_ : Aside0 (w.heap.size ≤ gb162) := ⟨h2_⟩
              have n3_ : Aside0 (w.heap.size ≤ gb162) := ⟨h3_⟩
              have n4_ : Aside0 (gb157 ≠ gb162) := ⟨h4_⟩
              have n5_ : Aside0 (gb162 ≠ gb157) := ⟨h5_⟩
              have n6_ : Aside0 (Below w.heap.size w w15) := ⟨h6_⟩
              clear BK157
              clear HB
              clear h0_ h1_ h2_ h3_ h4_ h5_ h6_
              have BK157 := n0_
              have BK162 := n1_
              have GW162 := n2_
              have GE162 := n3_
              have NB157_162 := n4_
              have NB162_157 := n5_
              have HB := n6_
              clear n0_ n1_ n2_ n3_ n4_ n5_ n6_
              have hHeld := trivial
              refine nA ?_
              refine oN 4 (some 15) #[T_,T_,T_,T_,T_,T_,F_,T_,F_,T_,F_,F_,T_,F_] HT_ (fun K hK => ?_)
              refine gO Try.func71 #[.string a0, .int .i64 0] ?_
              with_reducible refine (rec_number.calls k a0 0 t158 _ A5.out).mono ?_
              rintro e w' ⟨rfl, ⟨nd, rfl⟩⟩
              refine ⟨_, rfl, ?_⟩
              refine hK.out _ _ trivial (fun hHeld => ?_)
              clear hK K
              refine nS (some 15) ?_
              exact norm_ (nP) (hJ4_12 (gb162) _ ⟨(qB BK157), (qB BK162), GW162.out, GE162.out, NB157_162.out, NB162_157.out, qH⟩)
            ·skip
             rintro _ w14 ⟨h0_, h1_⟩
             have n0_ : Aside0 (w14.heap[gb157]? = some (.cells #[.int .i64 0, .int .i64 0, .int .i64 0, .int .i64 0, .int .i64 0] 73 (0, 0))) := ⟨h0_⟩
             have n1_ : Aside0 (Below w.heap.size w w14) := ⟨h1_⟩
             clear BK157
             clear HB
             clear h0_ h1_
             have BK157 := n0_
             have HB := n1_
             clear n0_ n1_
             have hHeld := trivial
             refine nA ?_
             refine two_ (i := 6) (j := 12) (Ni := some 17) (Nj := some 4) #[T_,T_,T_,T_,T_,T_,T_,T_,F_,T_,F_,F_,F_,F_] #[T_,T_,T_,T_,T_,T_,F_,T_,F_,T_,F_,F_,T_,F_] rfl rfl rfl rfl (two_of HT_.out (by kernel_rfl)) (by decide) (by decide) (fun K hK => ?_) (fun K hK => ?_)
             ·skip
              refine gO Try.func71 #[.string a0, .int .i64 1] ?_
              with_reducible refine (rec_number.calls k a0 1 t159 _ A6.out).mono ?_
              rintro e w' ⟨rfl, ⟨nd, rfl⟩⟩
              refine ⟨_, rfl, ?_⟩
              refine hK.out _ _ trivial (fun hHeld => ?_)
              clear hK K
              refine nS (some 17) ?_
              exact norm_ (nP) (hJ4_6 () _ ⟨(qB BK157), qH⟩)
             ·skip
              refine box_step ?hg (N := 4) ?hd (cs := #[.int .i64 0, .int .i64 0, .int .i64 0, .int .i64 0, .int .i64 0]) (t := 73) ?hr ?_; (case hd => rfl); (case hg => rfl); (case hr => first | (go_simp; done) | (go_simp; rfl))
              intro gb162 hg w15 hbox hb
              have hz_ := zqA HB hb
              replace hb := below_step hz_ hb
              have BK162 := Aside0.mk hbox
              have GW162 := zG HB hz_ hg
              have GE162 := zG HB hz_ hg
              have NB157_162 := zN BK157 hz_ hg
              have NB162_157 := zM BK157 hz_ hg
              replace BK157 := zB BK157 hb
              replace HB := zH HB hb
              clear hz_
              clear hb hbox hg
              refine hK.out _ _ trivial (fun hHeld => ?_)
              clear hK K
              refine nS (some 4) ?_
              exact norm_ (nP) (hJ4_12 (gb162) _ ⟨(qB BK157), (qB BK162), GW162.out, GE162.out, NB157_162.out, NB162_157.out, qH⟩)
           ·skip
            rintro gb162 w15 ⟨h0_, h1_, h2_, h3_, h4_, h5_, h6_⟩
            have n0_ : Aside0 (w15.heap[gb157]? = some (.cells #[.int .i64 0, .int .i64 0, .int .i64 0, .int .i64 0, .int .i64 0] 73 (0, 0))) := ⟨h0_⟩
            have n1_ : Aside0 (w15.heap[gb162]? = some (.cells #[.int .i64 0, .int .i64 0, .int .i64 0, .int .i64 0, .int .i64 0] 73 (0, 0))) := ⟨h1_⟩
            have n2_ : Aside0 (w.heap.size ≤ gb162) := ⟨h2_⟩
            have n3_ : Aside0 (w.heap.size ≤ gb162) := ⟨h3_⟩
            have n4_ : Aside0 (gb157 ≠ gb162) := ⟨h4_⟩
            have n5_ : Aside0 (gb162 ≠ gb157) := ⟨h5_⟩
            have n6_ : Aside0 (Below w.heap.size w w15) := ⟨h6_⟩
            clear BK157
            clear HB
            clear h0_ h1_ h2_ h3_ h4_ h5_ h6_
            have BK157 := n0_
            have BK162 := n1_
            have GW162 := n2_
            have GE162 := n3_
            have NB157_162 := n4_
            have NB162_157 := n5_
            have HB := n6_
            clear n0_ n1_ n2_ n3_ n4_ n5_ n6_
            have hHeld := trivial
            refine nA ?_
            refine oN 6 (some 17) #[T_,T_,T_,T_,T_,T_,T_,T_,F_,T_,F_,F_,T_,F_] HT_ (fun K hK => ?_)
            refine gO Try.func71 #[.string a0, .int .i64 1] ?_
            with_reducible refine (rec_number.calls k a0 1 t159 _ A6.out).mono ?_
            rintro e w' ⟨rfl, ⟨nd, rfl⟩⟩
            refine ⟨_, rfl, ?_⟩
            refine hK.out _ _ trivial (fun hHeld => ?_)
            clear hK K
            refine nS (some 17) ?_
            exact norm_ (nP) (hJ4_6_12 (gb162) _ ⟨(qB BK157), (qB BK162), GW162.out, GE162.out, NB157_162.out, NB162_157.out, qH⟩)
          ·skip
           rintro _ w14 ⟨h0_, h1_⟩
           have n0_ : Aside0 (w14.heap[gb157]? = some (.cells #[.int .i64 0, .int .i64 0, .int .i64 0, .int .i64 0, .int .i64 0] 73 (0, 0))) := ⟨h0_⟩
           have n1_ : Aside0 (Below w.heap.size w w14) := ⟨h1_⟩
           clear BK157
           clear HB
           clear h0_ h1_
           have BK157 := n0_
           have HB := n1_
           clear n0_ n1_
           have hHeld := trivial
           refine nA ?_
           refine two_ (i := 8) (j := 12) (Ni := some 19) (Nj := some 4) #[T_,T_,T_,T_,T_,T_,T_,T_,T_,T_,F_,F_,F_,F_] #[T_,T_,T_,T_,T_,T_,T_,T_,F_,T_,F_,F_,T_,F_] rfl rfl rfl rfl (two_of HT_.out (by kernel_rfl)) (by decide) (by decide) (fun K hK => ?_) (fun K hK => ?_)
           ·skip
            refine gO Try.func71 #[.string a0, .int .i64 2] ?_
            with_reducible refine (rec_number.calls k a0 2 t160 _ A7.out).mono ?_
            rintro e w' ⟨rfl, ⟨nd, rfl⟩⟩
            refine ⟨_, rfl, ?_⟩
            refine hK.out _ _ trivial (fun hHeld => ?_)
            clear hK K
            refine nS (some 19) ?_
            exact norm_ (nP) (hJ4_6_8 () _ ⟨(qB BK157), qH⟩)
           ·skip
            refine box_step ?hg (N := 4) ?hd (cs := #[.int .i64 0, .int .i64 0, .int .i64 0, .int .i64 0, .int .i64 0]) (t := 73) ?hr ?_; (case hd => rfl); (case hg => rfl); (case hr => first | (go_simp; done) | (go_simp; rfl))
            intro gb162 hg w15 hbox hb
            have hz_ := zqA HB hb
            replace hb := below_step hz_ hb
            have BK162 := Aside0.mk hbox
            have GW162 := zG HB hz_ hg
            have GE162 := zG HB hz_ hg
            have NB157_162 := zN BK157 hz_ hg
            have NB162_157 := zM BK157 hz_ hg
            replace BK157 := zB BK157 hb
            replace HB := zH HB hb
            clear hz_
            clear hb hbox hg
            refine hK.out _ _ trivial (fun hHeld => ?_)
            clear hK K
            refine nS (some 4) ?_
            exact norm_ (nP) (hJ4_6_12 (gb162) _ ⟨(qB BK157), (qB BK162), GW162.out, GE162.out, NB157_162.out, NB162_157.out, qH⟩)
         ·skip
          rintro gb162 w15 ⟨h0_, h1_, h2_, h3_, h4_, h5_, h6_⟩
          have n0_ : Aside0 (w15.heap[gb157]? = some (.cells #[.int .i64 0, .int .i64 0, .int .i64 0, .int .i64 0, .int .i64 0] 73 (0, 0))) := ⟨h0_⟩
          have n1_ : Aside0 (w15.heap[gb162]? = some (.cells #[.int .i64 0, .int .i64 0, .int .i64 0, .int .i64 0, .int .i64 0] 73 (0, 0))) := ⟨h1_⟩
          have n2_ : Aside0 (w.heap.size ≤ gb162) := ⟨h2_⟩
          have n3_ : Aside0 (w.heap.size ≤ gb162) := ⟨h3_⟩
          have n4_ : Aside0 (gb157 ≠ gb162) := ⟨h4_⟩
          have n5_ : Aside0 (gb162 ≠ gb157) := ⟨h5_⟩
          have n6_ : Aside0 (Below w.heap.size w w15) := ⟨h6_⟩
          clear BK157
          clear HB
          clear h0_ h1_ h2_ h3_ h4_ h5_ h6_
          have BK157 := n0_
          have BK162 := n1_
          have GW162 := n2_
          have GE162 := n3_
          have NB157_162 := n4_
          have NB162_157 := n5_
          have HB := n6_
          clear n0_ n1_ n2_ n3_ n4_ n5_ n6_
          have hHeld := trivial
          refine nA ?_
          refine oN 8 (some 19) #[T_,T_,T_,T_,T_,T_,T_,T_,T_,T_,F_,F_,T_,F_] HT_ (fun K hK => ?_)
          refine gO Try.func71 #[.string a0, .int .i64 2] ?_
          with_reducible refine (rec_number.calls k a0 2 t160 _ A7.out).mono ?_
          rintro e w' ⟨rfl, ⟨nd, rfl⟩⟩
          refine ⟨_, rfl, ?_⟩
          refine hK.out _ _ trivial (fun hHeld => ?_)
          clear hK K
          refine nS (some 19) ?_
          exact norm_ (nP) (hJ4_6_8_12 (gb162) _ ⟨(qB BK157), (qB BK162), GW162.out, GE162.out, NB157_162.out, NB162_157.out, qH⟩)
        ·skip
         rintro _ w14 ⟨h0_, h1_⟩
         have n0_ : Aside0 (w14.heap[gb157]? = some (.cells #[.int .i64 0, .int .i64 0, .int .i64 0, .int .i64 0, .int .i64 0] 73 (0, 0))) := ⟨h0_⟩
         have n1_ : Aside0 (Below w.heap.size w w14) := ⟨h1_⟩
         clear BK157
         clear HB
         clear h0_ h1_
         have BK157 := n0_
         have HB := n1_
         clear n0_ n1_
         have hHeld := trivial
         refine nA ?_
         refine two_ (i := 10) (j := 12) (Ni := some 21) (Nj := some 4) #[T_,T_,T_,T_,T_,T_,T_,T_,T_,T_,T_,F_,F_,F_] #[T_,T_,T_,T_,T_,T_,T_,T_,T_,T_,F_,F_,T_,F_] rfl rfl rfl rfl (two_of HT_.out (by kernel_rfl)) (by decide) (by decide) (fun K hK => ?_) (fun K hK => ?_)
         ·skip
          refine gO Try.func71 #[.string a0, .int .i64 3] ?_
          with_reducible refine (rec_number.calls k a0 3 t161 _ A8.out).mono ?_
          rintro e w' ⟨rfl, ⟨nd, rfl⟩⟩
          refine ⟨_, rfl, ?_⟩
          refine hK.out _ _ trivial (fun hHeld => ?_)
          clear hK K
          refine nS (some 21) ?_
          refine pU 11 (some 22) #[T_,T_,T_,T_,T_,T_,T_,T_,T_,T_,T_,T_,F_,F_] HT_ ?_
          exact norm_ (nP) (hJ4_6_8_10 () _ ⟨(qB BK157), qH⟩)
         ·skip
          refine box_step ?hg (N := 4) ?hd (cs := #[.int .i64 0, .int .i64 0, .int .i64 0, .int .i64 0, .int .i64 0]) (t := 73) ?hr ?_; (case hd => rfl); (case hg => rfl); (case hr => first | (go_simp; done) | (go_simp; rfl))
          intro gb162 hg w15 hbox hb
          have hz_ := zqA HB hb
          replace hb := below_step hz_ hb
          have BK162 := Aside0.mk hbox
          have GW162 := zG HB hz_ hg
          have GE162 := zG HB hz_ hg
          have NB157_162 := zN BK157 hz_ hg
          have NB162_157 := zM BK157 hz_ hg
          replace BK157 := zB BK157 hb
          replace HB := zH HB hb
          clear hz_
          clear hb hbox hg
          refine hK.out _ _ trivial (fun hHeld => ?_)
          clear hK K
          refine nS (some 4) ?_
          exact norm_ (nP) (hJ4_6_8_12 (gb162) _ ⟨(qB BK157), (qB BK162), GW162.out, GE162.out, NB157_162.out, NB162_157.out, qH⟩)
       ·skip
        rintro gb162 w15 ⟨h0_, h1_, h2_, h3_, h4_, h5_, h6_⟩
        have n0_ : Aside0 (w15.heap[gb157]? = some (.cells #[.int .i64 0, .int .i64 0, .int .i64 0, .int .i64 0, .int .i64 0] 73 (0, 0))) := ⟨h0_⟩
        have n1_ : Aside0 (w15.heap[gb162]? = some (.cells #[.int .i64 0, .int .i64 0, .int .i64 0, .int .i64 0, .int .i64 0] 73 (0, 0))) := ⟨h1_⟩
        have n2_ : Aside0 (w.heap.size ≤ gb162) := ⟨h2_⟩
        have n3_ : Aside0 (w.heap.size ≤ gb162) := ⟨h3_⟩
        have n4_ : Aside0 (gb157 ≠ gb162) := ⟨h4_⟩
        have n5_ : Aside0 (gb162 ≠ gb157) := ⟨h5_⟩
        have n6_ : Aside0 (Below w.heap.size w w15) := ⟨h6_⟩
        clear BK157
        clear HB
        clear h0_ h1_ h2_ h3_ h4_ h5_ h6_
        have BK157 := n0_
        have BK162 := n1_
        have GW162 := n2_
        have GE162 := n3_
        have NB157_162 := n4_
        have NB162_157 := n5_
        have HB := n6_
        clear n0_ n1_ n2_ n3_ n4_ n5_ n6_
        have hHeld := trivial
        refine nA ?_
        refine oN 10 (some 21) #[T_,T_,T_,T_,T_,T_,T_,T_,T_,T_,T_,F_,T_,F_] HT_ (fun K hK => ?_)
        refine gO Try.func71 #[.string a0, .int .i64 3] ?_
        with_reducible refine (rec_number.calls k a0 3 t161 _ A8.out).mono ?_
        rintro e w' ⟨rfl, ⟨nd, rfl⟩⟩
        refine ⟨_, rfl, ?_⟩
        refine hK.out _ _ trivial (fun hHeld => ?_)
        clear hK K
        refine nS (some 21) ?_
        refine pU 11 (some 22) #[T_,T_,T_,T_,T_,T_,T_,T_,T_,T_,T_,T_,T_,F_] HT_ ?_
        exact norm_ (nP) (hJ4_6_8_10_12 (gb162) _ ⟨(qB BK157), (qB BK162), GW162.out, GE162.out, NB157_162.out, NB162_157.out, qH⟩)
      ·skip
       rintro _ w14 ⟨h0_, h1_⟩
       have n0_ : Aside0 (w14.heap[gb157]? = some (.cells #[.int .i64 0, .int .i64 0, .int .i64 0, .int .i64 0, .int .i64 0] 73 (0, 0))) := ⟨h0_⟩
       have n1_ : Aside0 (Below w.heap.size w w14) := ⟨h1_⟩
       clear BK157
       clear HB
       clear h0_ h1_
       have BK157 := n0_
       have HB := n1_
       clear n0_ n1_
       have hHeld := trivial
       refine nA ?_
       refine oN 12 (some 4) #[T_,T_,T_,T_,T_,T_,T_,T_,T_,T_,T_,T_,T_,F_] HT_ (fun K hK => ?_)
       refine box_step ?hg (N := 4) ?hd (cs := #[.int .i64 0, .int .i64 0, .int .i64 0, .int .i64 0, .int .i64 0]) (t := 73) ?hr ?_; (case hd => rfl); (case hg => rfl); (case hr => first | (go_simp; done) | (go_simp; rfl))
       intro gb162 hg w15 hbox hb
       have hz_ := zqA HB hb
       replace hb := below_step hz_ hb
       have BK162 := Aside0.mk hbox
       have GW162 := zG HB hz_ hg
       have GE162 := zG HB hz_ hg
       have NB157_162 := zN BK157 hz_ hg
       have NB162_157 := zM BK157 hz_ hg
       replace BK157 := zB BK157 hb
       replace HB := zH HB hb
       clear hz_
       clear hb hbox hg
       refine hK.out _ _ trivial (fun hHeld => ?_)
       clear hK K
       refine nS (some 4) ?_
       exact norm_ (nP) (hJ4_6_8_10_12 (gb162) _ ⟨(qB BK157), (qB BK162), GW162.out, GE162.out, NB157_162.out, NB162_157.out, qH⟩)
     rintro gb162 w15 ⟨h0_, h1_, h2_, h3_, h4_, h5_, h6_⟩
     have n0_ : Aside0 (w15.heap[gb157]? = some (.cells #[.int .i64 0, .int .i64 0, .int .i64 0, .int .i64 0, .int .i64 0] 73 (0, 0))) := ⟨h0_⟩
     have n1_ : Aside0 (w15.heap[gb162]? = some (.cells #[.int .i64 0, .int .i64 0, .int .i64 0, .int .i64 0, .int .i64 0] 73 (0, 0))) := ⟨h1_⟩
     have n2_ : Aside0 (w.heap.size ≤ gb162) := ⟨h2_⟩
     have n3_ : Aside0 (w.heap.size ≤ gb162) := ⟨h3_⟩
     have n4_ : Aside0 (gb157 ≠ gb162) := ⟨h4_⟩
     have n5_ : Aside0 (gb162 ≠ gb157) := ⟨h5_⟩
     have n6_ : Aside0 (Below w.heap.size w w15) := ⟨h6_⟩
     clear BK157
     clear HB
     clear h0_ h1_ h2_ h3_ h4_ h5_ h6_
     have BK157 := n0_
     have BK162 := n1_
     have GW162 := n2_
     have GE162 := n3_
     have NB157_162 := n4_
     have NB162_157 := n5_
     have HB := n6_
     clear n0_ n1_ n2_ n3_ n4_ n5_ n6_
     have hHeld := trivial
     refine nA ?_
     refine oN 13 (none) #[T_,T_,T_,T_,T_,T_,T_,T_,T_,T_,T_,T_,T_,T_] HT_ (fun K hK => ?_)
     have hs16 : w15.cell? ⟨gb162, 0, none⟩ = some (.int .i64 0) := c0_ BK162
     have hfs16 := xF_ BK162.out 0
     have hns16_0 := NB157_162.out
     have hms16_0 := NB162_157.out
     have hs17 : w15.cell? ⟨gb162, 1, none⟩ = some (.int .i64 0) := c1_ BK162
     have hfs17 := xF_ BK162.out 1
     have hns17_0 := NB157_162.out
     have hms17_0 := NB162_157.out
     have hs18 : w15.cell? ⟨gb162, 2, none⟩ = some (.int .i64 0) := c2_ BK162
     have hfs18 := xF_ BK162.out 2
     have hns18_0 := NB157_162.out
     have hms18_0 := NB162_157.out
     have hs19 : w15.cell? ⟨gb162, 3, none⟩ = some (.int .i64 0) := c3_ BK162
     have hfs19 := xF_ BK162.out 3
     have hns19_0 := NB157_162.out
     have hms19_0 := NB162_157.out
     have hs20 : w15.cell? ⟨gb162, 4, none⟩ = some (.int .i64 0) := c4_ BK162
     have hfs20 := xF_ BK162.out 4
     have hns20_0 := NB157_162.out
     have hms20_0 := NB162_157.out
     refine skip_ (w1 := ?_) (by rfl) rfl ?_ ?_
     rotate_left
     ·go_simp
      rfl
     refine hK.out _ _ trivial (fun hHeld => ?_)
     clear hK K
     refine done_ (done_of HT_.out (by kernel_rfl)) ?_
     obtain ⟨hnb21, hnc21⟩ := nn_ NB162_157
     obtain ⟨hcz22_0, hcz22_1, hcz22_2, hcz22_3, hcz22_4, hfz22_0, hfz22_1, hfz22_2, hfz22_3, hfz22_4⟩ := e5_ BK162
     try go_wp2_with (first | ((with_reducible refine gate_callee (f := 57) rfl ?_); refine gL (some 25) Try.func57 #[.agg #[.int .i64 (wrap64 (bt a0 1)), .int .i64 t158, .int .i64 t159, .int .i64 t160, .int .i64 t161]] ?_; (with_reducible refine (rec_Head_Text.calls k (wrap64 (bt a0 1)) t158 t159 t160 t161 t163 true _ A9.out).mono ?_); rintro e w23 ⟨rfl, hb⟩; refine ⟨_, rfl, ?_⟩; replace BK157 := wF BK157 hb; replace BK162 := wP5 BK162 hb; replace HB := wH hb; (try clear hb); obtain ⟨hcz24_0, hcz24_1, hcz24_2, hcz24_3, hcz24_4, hfz24_0, hfz24_1, hfz24_2, hfz24_3, hfz24_4⟩ := e5_ BK162; obtain ⟨hcz25_0, hcz25_1, hcz25_2, hcz25_3, hcz25_4, hfz25_0, hfz25_1, hfz25_2, hfz25_3, hfz25_4⟩ := e5_ BK157))
     refine bodyPost_ret (results_ct rfl _ _ gb157 73 #[.int .i64 (wrap64 (bt a0 1)), .int .i64 t158, .int .i64 t159, .int .i64 t160, .int .i64 t161] (0, 0) _ rfl (by (with_reducible repeat (first | apply xN_ | apply xD_ | apply xA_)); refine blk_put (cs := #[.int .i64 (wrap64 (bt a0 1)), .int .i64 t158, .int .i64 t159, .int .i64 t160, .int .i64 0]) ?_ 4 _ rfl; refine blk_put (cs := #[.int .i64 (wrap64 (bt a0 1)), .int .i64 t158, .int .i64 t159, .int .i64 0, .int .i64 0]) ?_ 3 _ rfl; refine blk_put (cs := #[.int .i64 (wrap64 (bt a0 1)), .int .i64 t158, .int .i64 0, .int .i64 0, .int .i64 0]) ?_ 2 _ rfl; refine blk_put (cs := #[.int .i64 (wrap64 (bt a0 1)), .int .i64 0, .int .i64 0, .int .i64 0, .int .i64 0]) ?_ 1 _ rfl; refine blk_put (cs := #[.int .i64 0, .int .i64 0, .int .i64 0, .int .i64 0, .int .i64 0]) ?_ 0 _ rfl; (with_reducible repeat (first | apply xN_ | apply xD_ | apply xA_)); exact BK157.out) Try.underlying73 rfl (by kernel_rfl)) rfl ?_
     exact ⟨eX, qH⟩
    ·rw [if_neg c11] at H
     have c11b0 : (t163.toList == a0.toList) = false := beq_eq_false_iff_ne.mpr c11
     have c11b1 : (t163.toList != a0.toList) = true := bne_iff_ne.mpr c11
     simp only [Option.some.injEq, Prod.mk.injEq] at H
     obtain ⟨rfl, rfl, rfl, rfl, rfl, rfl⟩ := H
     go_enter Try.func53, Try.ntmps53
     try go_wp2_with (first | ((with_reducible refine gate_dst (N := 2) rfl ?_); refine bE (N := 2) (cs := #[.int .i64 0, .int .i64 0, .int .i64 0, .int .i64 0, .int .i64 0]) (t := 73) ?_; intro gb157 hg w26 hbox hb; have hz_ := zqA HB hb; replace hb := below_step hz_ hb; have BK157 := Aside0.mk hbox; have GE157 := zG HB hz_ hg; replace HB := zH HB hb; clear hz_; clear hb hbox hg))
     replace BK157 := Aside0.mk (xD_ BK157.out)
     replace HB := Aside0.mk (yD_ HB.out)
     have p4 : 0 ≤ (1 : Int) := (by omega)
     have q4 : 1 < a0.size := (by have : (1 : Int) < (a0.size : Int) := of_decide_eq_true aS; omega)
     have hx4 : ∀ h : 1 < a0.size, ((a0[1]'h).toNat : Int) = bt a0 1 := bt_at a0 1
     clear p4
     have qi4 : (1 < (a0.size : Int)) = True := eq_true (of_decide_eq_true aS)
     replace q4 := eq_true q4
     refine start_ (n := 14) (S := fun w' => True) (ds := []) #[F_,F_,F_,F_,F_,F_,F_,F_,F_,F_,F_,F_,F_,F_] (by kernel_rfl) rfl rfl trivial (fun hHeld => ?_); refine with_tabW rec_Read.tab3 rec_Read.bits3 (fun HT_ HW_ => ?_)
     generalize w26.drew = w27 at BK157 HB hHeld ⊢
     refine pU 0 (some 11) #[T_,F_,F_,F_,F_,F_,F_,F_,F_,F_,F_,F_,F_,F_] HT_ ?_
     refine pU 3 (some 14) #[T_,F_,F_,T_,F_,F_,F_,F_,F_,F_,F_,F_,F_,F_] HT_ ?_
     refine pU 5 (some 16) #[T_,F_,F_,T_,F_,T_,F_,F_,F_,F_,F_,F_,F_,F_] HT_ ?_
     refine pU 7 (some 18) #[T_,F_,F_,T_,F_,T_,F_,T_,F_,F_,F_,F_,F_,F_] HT_ ?_
     refine pU 9 (some 20) #[T_,F_,F_,T_,F_,T_,F_,T_,F_,T_,F_,F_,F_,F_] HT_ ?_
     refine take_ (i := 1) (N := some 12) (v := ?_) (a' := ?_) #[T_,T_,F_,T_,F_,T_,F_,T_,F_,T_,F_,F_,F_,F_] rfl rfl (take_ofW HT_.out HW_.out (by kernel_rfl)) (fun _ _ _ h => h) (Or.inl ⟨by rfl, ?_⟩) hHeld ?_ ?_
     rotate_left
     ·intro w' _
      go_simp
      with_reducible rfl
     rotate_left
     ·simp only [Act.put, List.setIfInBounds_toArray, List.set_cons_zero, List.set_cons_succ, i64_w, i32_w]
      rfl
     refine pU 2 (some 13) #[T_,T_,T_,T_,F_,T_,F_,T_,F_,T_,F_,F_,F_,F_] HT_ ?_
     refine join_ (σ := Nat) 1 #[T_,T_,T_,T_,T_,T_,T_,T_,T_,T_,T_,T_,T_,F_] (fun s_ => [(15, .int .i64 t158), (17, .int .i64 t159), (19, .int .i64 t160), (21, .int .i64 t161), (4, .pointer (some ⟨s_, 0, none⟩)), (22, .agg #[.int .i64 (wrap64 (bt a0 1)), .int .i64 t158, .int .i64 t159, .int .i64 t160, .int .i64 t161])]) (fun s_ w' => (w'.heap[gb157]? = some (.cells #[.int .i64 0, .int .i64 0, .int .i64 0, .int .i64 0, .int .i64 0] 73 (0, 0))) ∧ (w'.heap[s_]? = some (.cells #[.int .i64 0, .int .i64 0, .int .i64 0, .int .i64 0, .int .i64 0] 73 (0, 0))) ∧ (w.heap.size ≤ s_) ∧ (w.heap.size ≤ s_) ∧ (gb157 ≠ s_) ∧ (s_ ≠ gb157) ∧ (Below w.heap.size w w')) ?_ ?_
     rotate_left
     ·intro hJ4_6_8_10_12
      refine join_ (σ := Unit) 2 #[T_,T_,T_,T_,T_,T_,T_,T_,T_,T_,T_,T_,F_,F_] (fun s_ => [(15, .int .i64 t158), (17, .int .i64 t159), (19, .int .i64 t160), (21, .int .i64 t161), (22, .agg #[.int .i64 (wrap64 (bt a0 1)), .int .i64 t158, .int .i64 t159, .int .i64 t160, .int .i64 t161])]) (fun s_ w' => (w'.heap[gb157]? = some (.cells #[.int .i64 0, .int .i64 0, .int .i64 0, .int .i64 0, .int .i64 0] 73 (0, 0))) ∧ (Below w.heap.size w w')) ?_ ?_
      rotate_left
      ·intro hJ4_6_8_10
       refine join_ (σ := Nat) 3 #[T_,T_,T_,T_,T_,T_,T_,T_,T_,T_,F_,F_,T_,F_] (fun s_ => [(15, .int .i64 t158), (17, .int .i64 t159), (19, .int .i64 t160), (4, .pointer (some ⟨s_, 0, none⟩))]) (fun s_ w' => (w'.heap[gb157]? = some (.cells #[.int .i64 0, .int .i64 0, .int .i64 0, .int .i64 0, .int .i64 0] 73 (0, 0))) ∧ (w'.heap[s_]? = some (.cells #[.int .i64 0, .int .i64 0, .int .i64 0, .int .i64 0, .int .i64 0] 73 (0, 0))) ∧ (w.heap.size ≤ s_) ∧ (w.heap.size ≤ s_) ∧ (gb157 ≠ s_) ∧ (s_ ≠ gb157) ∧ (Below w.heap.size w w')) ?_ ?_
       rotate_left
       ·intro hJ4_6_8_12
        refine join_ (σ := Unit) 4 #[T_,T_,T_,T_,T_,T_,T_,T_,T_,T_,F_,F_,F_,F_] (fun s_ => [(15, .int .i64 t158), (17, .int .i64 t159), (19, .int .i64 t160)]) (fun s_ w' => (w'.heap[gb157]? = some (.cells #[.int .i64 0, .int .i64 0, .int .i64 0, .int .i64 0, .int .i64 0] 73 (0, 0))) ∧ (Below w.heap.size w w')) ?_ ?_
        rotate_left
        ·intro hJ4_6_8
         refine join_ (σ := Nat) 4 #[T_,T_,T_,T_,T_,T_,T_,T_,F_,T_,F_,F_,T_,F_] (fun s_ => [(15, .int .i64 t158), (17, .int .i64 t159), (4, .pointer (some ⟨s_, 0, none⟩))]) (fun s_ w' => (w'.heap[gb157]? = some (.cells #[.int .i64 0, .int .i64 0, .int .i64 0, .int .i64 0, .int .i64 0] 73 (0, 0))) ∧ (w'.heap[s_]? = some (.cells #[.int .i64 0, .int .i64 0, .int .i64 0, .int .i64 0, .int .i64 0] 73 (0, 0))) ∧ (w.heap.size ≤ s_) ∧ (w.heap.size ≤ s_) ∧ (gb157 ≠ s_) ∧ (s_ ≠ gb157) ∧ (Below w.heap.size w w')) ?_ ?_
         rotate_left
         ·intro hJ4_6_12
          refine join_ (σ := Unit) 5 #[T_,T_,T_,T_,T_,T_,T_,T_,F_,T_,F_,F_,F_,F_] (fun s_ => [(15, .int .i64 t158), (17, .int .i64 t159)]) (fun s_ w' => (w'.heap[gb157]? = some (.cells #[.int .i64 0, .int .i64 0, .int .i64 0, .int .i64 0, .int .i64 0] 73 (0, 0))) ∧ (Below w.heap.size w w')) ?_ ?_
          rotate_left
          ·intro hJ4_6
           refine join_ (σ := Nat) 5 #[T_,T_,T_,T_,T_,T_,F_,T_,F_,T_,F_,F_,T_,F_] (fun s_ => [(15, .int .i64 t158), (4, .pointer (some ⟨s_, 0, none⟩))]) (fun s_ w' => (w'.heap[gb157]? = some (.cells #[.int .i64 0, .int .i64 0, .int .i64 0, .int .i64 0, .int .i64 0] 73 (0, 0))) ∧ (w'.heap[s_]? = some (.cells #[.int .i64 0, .int .i64 0, .int .i64 0, .int .i64 0, .int .i64 0] 73 (0, 0))) ∧ (w.heap.size ≤ s_) ∧ (w.heap.size ≤ s_) ∧ (gb157 ≠ s_) ∧ (s_ ≠ gb157) ∧ (Below w.heap.size w w')) ?_ ?_
           rotate_left
           ·intro hJ4_12
            refine join_ (σ := Unit) 6 #[T_,T_,T_,T_,T_,T_,F_,T_,F_,T_,F_,F_,F_,F_] (fun s_ => [(15, .int .i64 t158)]) (fun s_ w' => (w'.heap[gb157]? = some (.cells #[.int .i64 0, .int .i64 0, .int .i64 0, .int .i64 0, .int .i64 0] 73 (0, 0))) ∧ (Below w.heap.size w w')) ?_ ?_
            rotate_left
            ·intro hJ4
             refine join_ (σ := Nat) 6 #[T_,T_,T_,T_,F_,T_,F_,T_,F_,T_,F_,F_,T_,F_] (fun s_ => [(4, .pointer (some ⟨s_, 0, none⟩))]) (fun s_ w' => (w'.heap[gb157]? = some (.cells #[.int .i64 0, .int .i64 0, .int .i64 0, .int .i64 0, .int .i64 0] 73 (0, 0))) ∧ (w'.heap[s_]? = some (.cells #[.int .i64 0, .int .i64 0, .int .i64 0, .int .i64 0, .int .i64 0] 73 (0, 0))) ∧ (w.heap.size ≤ s_) ∧ (w.heap.size ≤ s_) ∧ (gb157 ≠ s_) ∧ (s_ ≠ gb157) ∧ (Below w.heap.size w w')) ?_ ?_
             rotate_left
             ·intro hJ12
              refine two_ (i := 4) (j := 12) (Ni := some 15) (Nj := some 4) #[T_,T_,T_,T_,T_,T_,F_,T_,F_,T_,F_,F_,F_,F_] #[T_,T_,T_,T_,F_,T_,F_,T_,F_,T_,F_,F_,T_,F_] rfl rfl rfl rfl (two_of HT_.out (by kernel_rfl)) (by decide) (by decide) (fun K hK => ?_) (fun K hK => ?_)
              ·skip
               refine gO Try.func71 #[.string a0, .int .i64 0] ?_
               with_reducible refine (rec_number.calls k a0 0 t158 _ A5.out).mono ?_
               rintro e w' ⟨rfl, ⟨nd, rfl⟩⟩
               refine ⟨_, rfl, ?_⟩
               refine hK.out _ _ trivial (fun hHeld => ?_)
               clear hK K
               refine nS (some 15) ?_
               exact norm_ (nP) (hJ4 () _ ⟨(qB BK157), qH⟩)
              ·skip
               refine box_step ?hg (N := 4) ?hd (cs := #[.int .i64 0, .int .i64 0, .int .i64 0, .int .i64 0, .int .i64 0]) (t := 73) ?hr ?_; (case hd => rfl); (case hg => rfl); (case hr => first | (go_simp; done) | (go_simp; rfl))
               intro gb162 hg w28 hbox hb
               have hz_ := zqA HB hb
               replace hb := below_step hz_ hb
               have BK162 := Aside0.mk hbox
               have GW162 := zG HB hz_ hg
               have GE162 := zG HB hz_ hg
               have NB157_162 := zN BK157 hz_ hg
               have NB162_157 := zM BK157 hz_ hg
               replace BK157 := zB BK157 hb
               replace HB := zH HB hb
               clear hz_
               clear hb hbox hg
               refine hK.out _ _ trivial (fun hHeld => ?_)
               clear hK K
               refine nS (some 4) ?_
               exact norm_ (nP) (hJ12 (gb162) _ ⟨(qB BK157), (qB BK162), GW162.out, GE162.out, NB157_162.out, NB162_157.out, qH⟩)
             ·skip
              rintro gb162 w29 ⟨h0_, h1_, h2_, h3_, h4_, h5_, h6_⟩
              have n0_ : Aside0 (w29.heap[gb157]? = some (.cells #[.int .i64 0, .int .i64 0, .int .i64 0, .int .i64 0, .int .i64 0] 73 (0, 0))) := ⟨h0_⟩
              have n1_ : Aside0 (w29.heap[gb162]? = some (.cells #[.int .i64 0, .int .i64 0, .int .i64 0, .int .i64 0, .int .i64 0] 73 (0, 0))) := ⟨h1_⟩
              have n2_ : Aside0 (w.heap.size ≤ gb162) := ⟨h2_⟩
              have n3_ : Aside0 (w.heap.size ≤ gb162) := ⟨h3_⟩
              have n4_ : Aside0 (gb157 ≠ gb162) := ⟨h4_⟩
              have n5_ : Aside0 (gb162 ≠ gb157) := ⟨h5_⟩
              have n6_ : Aside0 (Below w.heap.size w w29) := ⟨h6_⟩
              clear BK157
              clear HB
              clear h0_ h1_ h2_ h3_ h4_ h5_ h6_
              have BK157 := n0_
              have BK162 := n1_
              have GW162 := n2_
              have GE162 := n3_
              have NB157_162 := n4_
              have NB162_157 := n5_
              have HB := n6_
              clear n0_ n1_ n2_ n3_ n4_ n5_ n6_
              have hHeld := trivial
              refine nA ?_
              refine oN 4 (some 15) #[T_,T_,T_,T_,T_,T_,F_,T_,F_,T_,F_,F_,T_,F_] HT_ (fun K hK => ?_)
              refine gO Try.func71 #[.string a0, .int .i64 0] ?_
              with_reducible refine (rec_number.calls k a0 0 t158 _ A5.out).mono ?_
              rintro e w' ⟨rfl, ⟨nd, rfl⟩⟩
              refine ⟨_, rfl, ?_⟩
              refine hK.out _ _ trivial (fun hHeld => ?_)
              clear hK K
              refine nS (some 15) ?_
              exact norm_ (nP) (hJ4_12 (gb162) _ ⟨(qB BK157), (qB BK162), GW162.out, GE162.out, NB157_162.out, NB162_157.out, qH⟩)
            ·skip
             rintro _ w28 ⟨h0_, h1_⟩
             have n0_ : Aside0 (w28.heap[gb157]? = some (.cells #[.int .i64 0, .int .i64 0, .int .i64 0, .int .i64 0, .int .i64 0] 73 (0, 0))) := ⟨h0_⟩
             have n1_ : Aside0 (Below w.heap.size w w28) := ⟨h1_⟩
             clear BK157
             clear HB
             clear h0_ h1_
             have BK157 := n0_
             have HB := n1_
             clear n0_ n1_
             have hHeld := trivial
             refine nA ?_
             refine two_ (i := 6) (j := 12) (Ni := some 17) (Nj := some 4) #[T_,T_,T_,T_,T_,T_,T_,T_,F_,T_,F_,F_,F_,F_] #[T_,T_,T_,T_,T_,T_,F_,T_,F_,T_,F_,F_,T_,F_] rfl rfl rfl rfl (two_of HT_.out (by kernel_rfl)) (by decide) (by decide) (fun K hK => ?_) (fun K hK => ?_)
             ·skip
              refine gO Try.func71 #[.string a0, .int .i64 1] ?_
              with_reducible refine (rec_number.calls k a0 1 t159 _ A6.out).mono ?_
              rintro e w' ⟨rfl, ⟨nd, rfl⟩⟩
              refine ⟨_, rfl, ?_⟩
              refine hK.out _ _ trivial (fun hHeld => ?_)
              clear hK K
              refine nS (some 17) ?_
              exact norm_ (nP) (hJ4_6 () _ ⟨(qB BK157), qH⟩)
             ·skip
              refine box_step ?hg (N := 4) ?hd (cs := #[.int .i64 0, .int .i64 0, .int .i64 0, .int .i64 0, .int .i64 0]) (t := 73) ?hr ?_; (case hd => rfl); (case hg => rfl); (case hr => first | (go_simp; done) | (go_simp; rfl))
              intro gb162 hg w29 hbox hb
              have hz_ := zqA HB hb
              replace hb := below_step hz_ hb
              have BK162 := Aside0.mk hbox
              have GW162 := zG HB hz_ hg
              have GE162 := zG HB hz_ hg
              have NB157_162 := zN BK157 hz_ hg
              have NB162_157 := zM BK157 hz_ hg
              replace BK157 := zB BK157 hb
              replace HB := zH HB hb
              clear hz_
              clear hb hbox hg
              refine hK.out _ _ trivial (fun hHeld => ?_)
              clear hK K
              refine nS (some 4) ?_
              exact norm_ (nP) (hJ4_12 (gb162) _ ⟨(qB BK157), (qB BK162), GW162.out, GE162.out, NB157_162.out, NB162_157.out, qH⟩)
           ·skip
            rintro gb162 w29 ⟨h0_, h1_, h2_, h3_, h4_, h5_, h6_⟩
            have n0_ : Aside0 (w29.heap[gb157]? = some (.cells #[.int .i64 0, .int .i64 0, .int .i64 0, .int .i64 0, .int .i64 0] 73 (0, 0))) := ⟨h0_⟩
            have n1_ : Aside0 (w29.heap[gb162]? = some (.cells #[.int .i64 0, .int .i64 0, .int .i64 0, .int .i64 0, .int .i64 0] 73 (0, 0))) := ⟨h1_⟩
            have n2_ : Aside0 (w.heap.size ≤ gb162) := ⟨h2_⟩
            have n3_ : Aside0 (w.heap.size ≤ gb162) := ⟨h3_⟩
            have n4_ : Aside0 (gb157 ≠ gb162) := ⟨h4_⟩
            have n5_ : Aside0 (gb162 ≠ gb157) := ⟨h5_⟩
            have n6_ : Aside0 (Below w.heap.size w w29) := ⟨h6_⟩
            clear BK157
            clear HB
            clear h0_ h1_ h2_ h3_ h4_ h5_ h6_
            have BK157 := n0_
            have BK162 := n1_
            have GW162 := n2_
            have GE162 := n3_
            have NB157_162 := n4_
            have NB162_157 := n5_
            have HB := n6_
            clear n0_ n1_ n2_ n3_ n4_ n5_ n6_
            have hHeld := trivial
            refine nA ?_
            refine oN 6 (some 17) #[T_,T_,T_,T_,T_,T_,T_,T_,F_,T_,F_,F_,T_,F_] HT_ (fun K hK => ?_)
            refine gO Try.func71 #[.string a0, .int .i64 1] ?_
            with_reducible refine (rec_number.calls k a0 1 t159 _ A6.out).mono ?_
            rintro e w' ⟨rfl, ⟨nd, rfl⟩⟩
            refine ⟨_, rfl, ?_⟩
            refine hK.out _ _ trivial (fun hHeld => ?_)
            clear hK K
            refine nS (some 17) ?_
            exact norm_ (nP) (hJ4_6_12 (gb162) _ ⟨(qB BK157), (qB BK162), GW162.out, GE162.out, NB157_162.out, NB162_157.out, qH⟩)
          ·skip
           rintro _ w28 ⟨h0_, h1_⟩
           have n0_ : Aside0 (w28.heap[gb157]? = some (.cells #[.int .i64 0, .int .i64 0, .int .i64 0, .int .i64 0, .int .i64 0] 73 (0, 0))) := ⟨h0_⟩
           have n1_ : Aside0 (Below w.heap.size w w28) := ⟨h1_⟩
           clear BK157
           clear HB
           clear h0_ h1_
           have BK157 := n0_
           have HB := n1_
           clear n0_ n1_
           have hHeld := trivial
           refine nA ?_
           refine two_ (i := 8) (j := 12) (Ni := some 19) (Nj := some 4) #[T_,T_,T_,T_,T_,T_,T_,T_,T_,T_,F_,F_,F_,F_] #[T_,T_,T_,T_,T_,T_,T_,T_,F_,T_,F_,F_,T_,F_] rfl rfl rfl rfl (two_of HT_.out (by kernel_rfl)) (by decide) (by decide) (fun K hK => ?_) (fun K hK => ?_)
           ·skip
            refine gO Try.func71 #[.string a0, .int .i64 2] ?_
            with_reducible refine (rec_number.calls k a0 2 t160 _ A7.out).mono ?_
            rintro e w' ⟨rfl, ⟨nd, rfl⟩⟩
            refine ⟨_, rfl, ?_⟩
            refine hK.out _ _ trivial (fun hHeld => ?_)
            clear hK K
            refine nS (some 19) ?_
            exact norm_ (nP) (hJ4_6_8 () _ ⟨(qB BK157), qH⟩)
           ·skip
            refine box_step ?hg (N := 4) ?hd (cs := #[.int .i64 0, .int .i64 0, .int .i64 0, .int .i64 0, .int .i64 0]) (t := 73) ?hr ?_; (case hd => rfl); (case hg => rfl); (case hr => first | (go_simp; done) | (go_simp; rfl))
            intro gb162 hg w29 hbox hb
            have hz_ := zqA HB hb
            replace hb := below_step hz_ hb
            have BK162 := Aside0.mk hbox
            have GW162 := zG HB hz_ hg
            have GE162 := zG HB hz_ hg
            have NB157_162 := zN BK157 hz_ hg
            have NB162_157 := zM BK157 hz_ hg
            replace BK157 := zB BK157 hb
            replace HB := zH HB hb
            clear hz_
            clear hb hbox hg
            refine hK.out _ _ trivial (fun hHeld => ?_)
            clear hK K
            refine nS (some 4) ?_
            exact norm_ (nP) (hJ4_6_12 (gb162) _ ⟨(qB BK157), (qB BK162), GW162.out, GE162.out, NB157_162.out, NB162_157.out, qH⟩)
         ·skip
          rintro gb162 w29 ⟨h0_, h1_, h2_, h3_, h4_, h5_, h6_⟩
          have n0_ : Aside0 (w29.heap[gb157]? = some (.cells #[.int .i64 0, .int .i64 0, .int .i64 0, .int .i64 0, .int .i64 0] 73 (0, 0))) := ⟨h0_⟩
          have n1_ : Aside0 (w29.heap[gb162]? = some (.cells #[.int .i64 0, .int .i64 0, .int .i64 0, .int .i64 0, .int .i64 0] 73 (0, 0))) := ⟨h1_⟩
          have n2_ : Aside0 (w.heap.size ≤ gb162) := ⟨h2_⟩
          have n3_ : Aside0 (w.heap.size ≤ gb162) := ⟨h3_⟩
          have n4_ : Aside0 (gb157 ≠ gb162) := ⟨h4_⟩
          have n5_ : Aside0 (gb162 ≠ gb157) := ⟨h5_⟩
          have n6_ : Aside0 (Below w.heap.size w w29) := ⟨h6_⟩
          clear BK157
          clear HB
          clear h0_ h1_ h2_ h3_ h4_ h5_ h6_
          have BK157 := n0_
          have BK162 := n1_
          have GW162 := n2_
          have GE162 := n3_
          have NB157_162 := n4_
          have NB162_157 := n5_
          have HB := n6_
          clear n0_ n1_ n2_ n3_ n4_ n5_ n6_
          have hHeld := trivial
          refine nA ?_
          refine oN 8 (some 19) #[T_,T_,T_,T_,T_,T_,T_,T_,T_,T_,F_,F_,T_,F_] HT_ (fun K hK => ?_)
          refine gO Try.func71 #[.string a0, .int .i64 2] ?_
          with_reducible refine (rec_number.calls k a0 2 t160 _ A7.out).mono ?_
          rintro e w' ⟨rfl, ⟨nd, rfl⟩⟩
          refine ⟨_, rfl, ?_⟩
          refine hK.out _ _ trivial (fun hHeld => ?_)
          clear hK K
          refine nS (some 19) ?_
          exact norm_ (nP) (hJ4_6_8_12 (gb162) _ ⟨(qB BK157), (qB BK162), GW162.out, GE162.out, NB157_162.out, NB162_157.out, qH⟩)
        ·skip
         rintro _ w28 ⟨h0_, h1_⟩
         have n0_ : Aside0 (w28.heap[gb157]? = some (.cells #[.int .i64 0, .int .i64 0, .int .i64 0, .int .i64 0, .int .i64 0] 73 (0, 0))) := ⟨h0_⟩
         have n1_ : Aside0 (Below w.heap.size w w28) := ⟨h1_⟩
         clear BK157
         clear HB
         clear h0_ h1_
         have BK157 := n0_
         have HB := n1_
         clear n0_ n1_
         have hHeld := trivial
         refine nA ?_
         refine two_ (i := 10) (j := 12) (Ni := some 21) (Nj := some 4) #[T_,T_,T_,T_,T_,T_,T_,T_,T_,T_,T_,F_,F_,F_] #[T_,T_,T_,T_,T_,T_,T_,T_,T_,T_,F_,F_,T_,F_] rfl rfl rfl rfl (two_of HT_.out (by kernel_rfl)) (by decide) (by decide) (fun K hK => ?_) (fun K hK => ?_)
         ·skip
          refine gO Try.func71 #[.string a0, .int .i64 3] ?_
          with_reducible refine (rec_number.calls k a0 3 t161 _ A8.out).mono ?_
          rintro e w' ⟨rfl, ⟨nd, rfl⟩⟩
          refine ⟨_, rfl, ?_⟩
          refine hK.out _ _ trivial (fun hHeld => ?_)
          clear hK K
          refine nS (some 21) ?_
          refine pU 11 (some 22) #[T_,T_,T_,T_,T_,T_,T_,T_,T_,T_,T_,T_,F_,F_] HT_ ?_
          exact norm_ (nP) (hJ4_6_8_10 () _ ⟨(qB BK157), qH⟩)
         ·skip
          refine box_step ?hg (N := 4) ?hd (cs := #[.int .i64 0, .int .i64 0, .int .i64 0, .int .i64 0, .int .i64 0]) (t := 73) ?hr ?_; (case hd => rfl); (case hg => rfl); (case hr => first | (go_simp; done) | (go_simp; rfl))
          intro gb162 hg w29 hbox hb
          have hz_ := zqA HB hb
          replace hb := below_step hz_ hb
          have BK162 := Aside0.mk hbox
          have GW162 := zG HB hz_ hg
          have GE162 := zG HB hz_ hg
          have NB157_162 := zN BK157 hz_ hg
          have NB162_157 := zM BK157 hz_ hg
          replace BK157 := zB BK157 hb
          replace HB := zH HB hb
          clear hz_
          clear hb hbox hg
          refine hK.out _ _ trivial (fun hHeld => ?_)
          clear hK K
          refine nS (some 4) ?_
          exact norm_ (nP) (hJ4_6_8_12 (gb162) _ ⟨(qB BK157), (qB BK162), GW162.out, GE162.out, NB157_162.out, NB162_157.out, qH⟩)
       ·skip
        rintro gb162 w29 ⟨h0_, h1_, h2_, h3_, h4_, h5_, h6_⟩
        have n0_ : Aside0 (w29.heap[gb157]? = some (.cells #[.int .i64 0, .int .i64 0, .int .i64 0, .int .i64 0, .int .i64 0] 73 (0, 0))) := ⟨h0_⟩
        have n1_ : Aside0 (w29.heap[gb162]? = some (.cells #[.int .i64 0, .int .i64 0, .int .i64 0, .int .i64 0, .int .i64 0] 73 (0, 0))) := ⟨h1_⟩
        have n2_ : Aside0 (w.heap.size ≤ gb162) := ⟨h2_⟩
        have n3_ : Aside0 (w.heap.size ≤ gb162) := ⟨h3_⟩
        have n4_ : Aside0 (gb157 ≠ gb162) := ⟨h4_⟩
        have n5_ : Aside0 (gb162 ≠ gb157) := ⟨h5_⟩
        have n6_ : Aside0 (Below w.heap.size w w29) := ⟨h6_⟩
        clear BK157
        clear HB
        clear h0_ h1_ h2_ h3_ h4_ h5_ h6_
        have BK157 := n0_
        have BK162 := n1_
        have GW162 := n2_
        have GE162 := n3_
        have NB157_162 := n4_
        have NB162_157 := n5_
        have HB := n6_
        clear n0_ n1_ n2_ n3_ n4_ n5_ n6_
        have hHeld := trivial
        refine nA ?_
        refine oN 10 (some 21) #[T_,T_,T_,T_,T_,T_,T_,T_,T_,T_,T_,F_,T_,F_] HT_ (fun K hK => ?_)
        refine gO Try.func71 #[.string a0, .int .i64 3] ?_
        with_reducible refine (rec_number.calls k a0 3 t161 _ A8.out).mono ?_
        rintro e w' ⟨rfl, ⟨nd, rfl⟩⟩
        refine ⟨_, rfl, ?_⟩
        refine hK.out _ _ trivial (fun hHeld => ?_)
        clear hK K
        refine nS (some 21) ?_
        refine pU 11 (some 22) #[T_,T_,T_,T_,T_,T_,T_,T_,T_,T_,T_,T_,T_,F_] HT_ ?_
        exact norm_ (nP) (hJ4_6_8_10_12 (gb162) _ ⟨(qB BK157), (qB BK162), GW162.out, GE162.out, NB157_162.out, NB162_157.out, qH⟩)
      ·skip
       rintro _ w28 ⟨h0_, h1_⟩
       have n0_ : Aside0 (w28.heap[gb157]? = some (.cells #[.int .i64 0, .int .i64 0, .int .i64 0, .int .i64 0, .int .i64 0] 73 (0, 0))) := ⟨h0_⟩
       have n1_ : Aside0 (Below w.heap.size w w28) := ⟨h1_⟩
       clear BK157
       clear HB
       clear h0_ h1_
       have BK157 := n0_
       have HB := n1_
       clear n0_ n1_
       have hHeld := trivial
       refine nA ?_
       refine oN 12 (some 4) #[T_,T_,T_,T_,T_,T_,T_,T_,T_,T_,T_,T_,T_,F_] HT_ (fun K hK => ?_)
       refine box_step ?hg (N := 4) ?hd (cs := #[.int .i64 0, .int .i64 0, .int .i64 0, .int .i64 0, .int .i64 0]) (t := 73) ?hr ?_; (case hd => rfl); (case hg => rfl); (case hr => first | (go_simp; done) | (go_simp; rfl))
       intro gb162 hg w29 hbox hb
       have hz_ := zqA HB hb
       replace hb := below_step hz_ hb
       have BK162 := Aside0.mk hbox
       have GW162 := zG HB hz_ hg
       have GE162 := zG HB hz_ hg
       have NB157_162 := zN BK157 hz_ hg
       have NB162_157 := zM BK157 hz_ hg
       replace BK157 := zB BK157 hb
       replace HB := zH HB hb
       clear hz_
       clear hb hbox hg
       refine hK.out _ _ trivial (fun hHeld => ?_)
       clear hK K
       refine nS (some 4) ?_
       exact norm_ (nP) (hJ4_6_8_10_12 (gb162) _ ⟨(qB BK157), (qB BK162), GW162.out, GE162.out, NB157_162.out, NB162_157.out, qH⟩)
     rintro gb162 w29 ⟨h0_, h1_, h2_, h3_, h4_, h5_, h6_⟩
     have n0_ : Aside0 (w29.heap[gb157]? = some (.cells #[.int .i64 0, .int .i64 0, .int .i64 0, .int .i64 0, .int .i64 0] 73 (0, 0))) := ⟨h0_⟩
     have n1_ : Aside0 (w29.heap[gb162]? = some (.cells #[.int .i64 0, .int .i64 0, .int .i64 0, .int .i64 0, .int .i64 0] 73 (0, 0))) := ⟨h1_⟩
     have n2_ : Aside0 (w.heap.size ≤ gb162) := ⟨h2_⟩
     have n3_ : Aside0 (w.heap.size ≤ gb162) := ⟨h3_⟩
     have n4_ : Aside0 (gb157 ≠ gb162) := ⟨h4_⟩
     have n5_ : Aside0 (gb162 ≠ gb157) := ⟨h5_⟩
     have n6_ : Aside0 (Below w.heap.size w w29) := ⟨h6_⟩
     clear BK157
     clear HB
     clear h0_ h1_ h2_ h3_ h4_ h5_ h6_
     have BK157 := n0_
     have BK162 := n1_
     have GW162 := n2_
     have GE162 := n3_
     have NB157_162 := n4_
     have NB162_157 := n5_
     have HB := n6_
     clear n0_ n1_ n2_ n3_ n4_ n5_ n6_
     have hHeld := trivial
     refine nA ?_
     refine oN 13 (none) #[T_,T_,T_,T_,T_,T_,T_,T_,T_,T_,T_,T_,T_,T_] HT_ (fun K hK => ?_)
     have hs30 : w29.cell? ⟨gb162, 0, none⟩ = some (.int .i64 0) := c0_ BK162
     have hfs30 := xF_ BK162.out 0
     have hns30_0 := NB157_162.out
     have hms30_0 := NB162_157.out
     have hs31 : w29.cell? ⟨gb162, 1, none⟩ = some (.int .i64 0) := c1_ BK162
     have hfs31 := xF_ BK162.out 1
     have hns31_0 := NB157_162.out
     have hms31_0 := NB162_157.out
     have hs32 : w29.cell? ⟨gb162, 2, none⟩ = some (.int .i64 0) := c2_ BK162
     have hfs32 := xF_ BK162.out 2
     have hns32_0 := NB157_162.out
     have hms32_0 := NB162_157.out
     have hs33 : w29.cell? ⟨gb162, 3, none⟩ = some (.int .i64 0) := c3_ BK162
     have hfs33 := xF_ BK162.out 3
     have hns33_0 := NB157_162.out
     have hms33_0 := NB162_157.out
     have hs34 : w29.cell? ⟨gb162, 4, none⟩ = some (.int .i64 0) := c4_ BK162
     have hfs34 := xF_ BK162.out 4
     have hns34_0 := NB157_162.out
     have hms34_0 := NB162_157.out
     refine skip_ (w1 := ?_) (by rfl) rfl ?_ ?_
     rotate_left
     ·go_simp
      rfl
     refine hK.out _ _ trivial (fun hHeld => ?_)
     clear hK K
     refine done_ (done_of HT_.out (by kernel_rfl)) ?_
     obtain ⟨hnb35, hnc35⟩ := nn_ NB162_157
     obtain ⟨hcz36_0, hcz36_1, hcz36_2, hcz36_3, hcz36_4, hfz36_0, hfz36_1, hfz36_2, hfz36_3, hfz36_4⟩ := e5_ BK162
     try go_wp2_with (first | ((with_reducible refine gate_callee (f := 57) rfl ?_); refine gL (some 25) Try.func57 #[.agg #[.int .i64 (wrap64 (bt a0 1)), .int .i64 t158, .int .i64 t159, .int .i64 t160, .int .i64 t161]] ?_; (with_reducible refine (rec_Head_Text.calls k (wrap64 (bt a0 1)) t158 t159 t160 t161 t163 true _ A9.out).mono ?_); rintro e w37 ⟨rfl, hb⟩; refine ⟨_, rfl, ?_⟩; replace BK157 := wF BK157 hb; replace BK162 := wP5 BK162 hb; replace HB := wH hb; (try clear hb); obtain ⟨hcz38_0, hcz38_1, hcz38_2, hcz38_3, hcz38_4, hfz38_0, hfz38_1, hfz38_2, hfz38_3, hfz38_4⟩ := e5_ BK157))
     refine bodyPost_ret (results_ct rfl _ _ gb157 73 #[.int .i64 0, .int .i64 0, .int .i64 0, .int .i64 0, .int .i64 0] (0, 0) _ rfl (by (with_reducible repeat (first | apply xN_ | apply xD_ | apply xA_)); refine blk_put (cs := #[.int .i64 0, .int .i64 0, .int .i64 0, .int .i64 0, .int .i64 0]) ?_ 4 _ rfl; refine blk_put (cs := #[.int .i64 0, .int .i64 0, .int .i64 0, .int .i64 0, .int .i64 0]) ?_ 3 _ rfl; refine blk_put (cs := #[.int .i64 0, .int .i64 0, .int .i64 0, .int .i64 0, .int .i64 0]) ?_ 2 _ rfl; refine blk_put (cs := #[.int .i64 0, .int .i64 0, .int .i64 0, .int .i64 0, .int .i64 0]) ?_ 1 _ rfl; refine blk_put (cs := #[.int .i64 0, .int .i64 0, .int .i64 0, .int .i64 0, .int .i64 0]) ?_ 0 _ rfl; (with_reducible repeat (first | apply xN_ | apply xD_ | apply xA_)); exact BK157.out) Try.underlying73 rfl (by kernel_rfl)) rfl ?_
     exact ⟨eX, qH⟩
   ·replace c10 := Bool.eq_false_iff.mpr c10
    subst c10
    rw [if_neg nF_] at H
    simp only [Option.some.injEq, Prod.mk.injEq] at H
    obtain ⟨rfl, rfl, rfl, rfl, rfl, rfl⟩ := H
    go_enter Try.func53, Try.ntmps53
    try go_wp2_with (first | ((with_reducible refine gate_dst (N := 2) rfl ?_); refine bE (N := 2) (cs := #[.int .i64 0, .int .i64 0, .int .i64 0, .int .i64 0, .int .i64 0]) (t := 73) ?_; intro gb157 hg w39 hbox hb; have hz_ := zqA HB hb; replace hb := below_step hz_ hb; have BK157 := Aside0.mk hbox; have GE157 := zG HB hz_ hg; replace HB := zH HB hb; clear hz_; clear hb hbox hg))
    replace BK157 := Aside0.mk (xD_ BK157.out)
    replace HB := Aside0.mk (yD_ HB.out)
    have p4 : 0 ≤ (1 : Int) := (by omega)
    have q4 : 1 < a0.size := (by have : (1 : Int) < (a0.size : Int) := of_decide_eq_true aS; omega)
    have hx4 : ∀ h : 1 < a0.size, ((a0[1]'h).toNat : Int) = bt a0 1 := bt_at a0 1
    clear p4
    have qi4 : (1 < (a0.size : Int)) = True := eq_true (of_decide_eq_true aS)
    replace q4 := eq_true q4
    refine start_ (n := 14) (S := fun w' => True) (ds := []) #[F_,F_,F_,F_,F_,F_,F_,F_,F_,F_,F_,F_,F_,F_] (by kernel_rfl) rfl rfl trivial (fun hHeld => ?_); refine with_tabW rec_Read.tab3 rec_Read.bits3 (fun HT_ HW_ => ?_)
    generalize w39.drew = w40 at BK157 HB hHeld ⊢
    refine pU 0 (some 11) #[T_,F_,F_,F_,F_,F_,F_,F_,F_,F_,F_,F_,F_,F_] HT_ ?_
    refine pU 3 (some 14) #[T_,F_,F_,T_,F_,F_,F_,F_,F_,F_,F_,F_,F_,F_] HT_ ?_
    refine pU 5 (some 16) #[T_,F_,F_,T_,F_,T_,F_,F_,F_,F_,F_,F_,F_,F_] HT_ ?_
    refine pU 7 (some 18) #[T_,F_,F_,T_,F_,T_,F_,T_,F_,F_,F_,F_,F_,F_] HT_ ?_
    refine pU 9 (some 20) #[T_,F_,F_,T_,F_,T_,F_,T_,F_,T_,F_,F_,F_,F_] HT_ ?_
    refine take_ (i := 1) (N := some 12) (v := ?_) (a' := ?_) #[T_,T_,F_,T_,F_,T_,F_,T_,F_,T_,F_,F_,F_,F_] rfl rfl (take_ofW HT_.out HW_.out (by kernel_rfl)) (fun _ _ _ h => h) (Or.inl ⟨by rfl, ?_⟩) hHeld ?_ ?_
    rotate_left
    ·intro w' _
     go_simp
     with_reducible rfl
    rotate_left
    ·simp only [Act.put, List.setIfInBounds_toArray, List.set_cons_zero, List.set_cons_succ, i64_w, i32_w]
     rfl
    refine pU 2 (some 13) #[T_,T_,T_,T_,F_,T_,F_,T_,F_,T_,F_,F_,F_,F_] HT_ ?_
    refine join_ (σ := Nat) 1 #[T_,T_,T_,T_,T_,T_,T_,T_,T_,T_,T_,T_,T_,F_] (fun s_ => [(15, .int .i64 t158), (17, .int .i64 t159), (19, .int .i64 t160), (21, .int .i64 t161), (4, .pointer (some ⟨s_, 0, none⟩)), (22, .agg #[.int .i64 (wrap64 (bt a0 1)), .int .i64 t158, .int .i64 t159, .int .i64 t160, .int .i64 t161])]) (fun s_ w' => (w'.heap[gb157]? = some (.cells #[.int .i64 0, .int .i64 0, .int .i64 0, .int .i64 0, .int .i64 0] 73 (0, 0))) ∧ (w'.heap[s_]? = some (.cells #[.int .i64 0, .int .i64 0, .int .i64 0, .int .i64 0, .int .i64 0] 73 (0, 0))) ∧ (w.heap.size ≤ s_) ∧ (w.heap.size ≤ s_) ∧ (gb157 ≠ s_) ∧ (s_ ≠ gb157) ∧ (Below w.heap.size w w')) ?_ ?_
    rotate_left
    ·intro hJ4_6_8_10_12
     refine join_ (σ := Unit) 2 #[T_,T_,T_,T_,T_,T_,T_,T_,T_,T_,T_,T_,F_,F_] (fun s_ => [(15, .int .i64 t158), (17, .int .i64 t159), (19, .int .i64 t160), (21, .int .i64 t161), (22, .agg #[.int .i64 (wrap64 (bt a0 1)), .int .i64 t158, .int .i64 t159, .int .i64 t160, .int .i64 t161])]) (fun s_ w' => (w'.heap[gb157]? = some (.cells #[.int .i64 0, .int .i64 0, .int .i64 0, .int .i64 0, .int .i64 0] 73 (0, 0))) ∧ (Below w.heap.size w w')) ?_ ?_
     rotate_left
     ·intro hJ4_6_8_10
      refine join_ (σ := Nat) 3 #[T_,T_,T_,T_,T_,T_,T_,T_,T_,T_,F_,F_,T_,F_] (fun s_ => [(15, .int .i64 t158), (17, .int .i64 t159), (19, .int .i64 t160), (4, .pointer (some ⟨s_, 0, none⟩))]) (fun s_ w' => (w'.heap[gb157]? = some (.cells #[.int .i64 0, .int .i64 0, .int .i64 0, .int .i64 0, .int .i64 0] 73 (0, 0))) ∧ (w'.heap[s_]? = some (.cells #[.int .i64 0, .int .i64 0, .int .i64 0, .int .i64 0, .int .i64 0] 73 (0, 0))) ∧ (w.heap.size ≤ s_) ∧ (w.heap.size ≤ s_) ∧ (gb157 ≠ s_) ∧ (s_ ≠ gb157) ∧ (Below w.heap.size w w')) ?_ ?_
      rotate_left
      ·intro hJ4_6_8_12
       refine join_ (σ := Unit) 4 #[T_,T_,T_,T_,T_,T_,T_,T_,T_,T_,F_,F_,F_,F_] (fun s_ => [(15, .int .i64 t158), (17, .int .i64 t159), (19, .int .i64 t160)]) (fun s_ w' => (w'.heap[gb157]? = some (.cells #[.int .i64 0, .int .i64 0, .int .i64 0, .int .i64 0, .int .i64 0] 73 (0, 0))) ∧ (Below w.heap.size w w')) ?_ ?_
       rotate_left
       ·intro hJ4_6_8
        refine join_ (σ := Nat) 4 #[T_,T_,T_,T_,T_,T_,T_,T_,F_,T_,F_,F_,T_,F_] (fun s_ => [(15, .int .i64 t158), (17, .int .i64 t159), (4, .pointer (some ⟨s_, 0, none⟩))]) (fun s_ w' => (w'.heap[gb157]? = some (.cells #[.int .i64 0, .int .i64 0, .int .i64 0, .int .i64 0, .int .i64 0] 73 (0, 0))) ∧ (w'.heap[s_]? = some (.cells #[.int .i64 0, .int .i64 0, .int .i64 0, .int .i64 0, .int .i64 0] 73 (0, 0))) ∧ (w.heap.size ≤ s_) ∧ (w.heap.size ≤ s_) ∧ (gb157 ≠ s_) ∧ (s_ ≠ gb157) ∧ (Below w.heap.size w w')) ?_ ?_
        rotate_left
        ·intro hJ4_6_12
         refine join_ (σ := Unit) 5 #[T_,T_,T_,T_,T_,T_,T_,T_,F_,T_,F_,F_,F_,F_] (fun s_ => [(15, .int .i64 t158), (17, .int .i64 t159)]) (fun s_ w' => (w'.heap[gb157]? = some (.cells #[.int .i64 0, .int .i64 0, .int .i64 0, .int .i64 0, .int .i64 0] 73 (0, 0))) ∧ (Below w.heap.size w w')) ?_ ?_
         rotate_left
         ·intro hJ4_6
          refine join_ (σ := Nat) 5 #[T_,T_,T_,T_,T_,T_,F_,T_,F_,T_,F_,F_,T_,F_] (fun s_ => [(15, .int .i64 t158), (4, .pointer (some ⟨s_, 0, none⟩))]) (fun s_ w' => (w'.heap[gb157]? = some (.cells #[.int .i64 0, .int .i64 0, .int .i64 0, .int .i64 0, .int .i64 0] 73 (0, 0))) ∧ (w'.heap[s_]? = some (.cells #[.int .i64 0, .int .i64 0, .int .i64 0, .int .i64 0, .int .i64 0] 73 (0, 0))) ∧ (w.heap.size ≤ s_) ∧ (w.heap.size ≤ s_) ∧ (gb157 ≠ s_) ∧ (s_ ≠ gb157) ∧ (Below w.heap.size w w')) ?_ ?_
          rotate_left
          ·intro hJ4_12
           refine join_ (σ := Unit) 6 #[T_,T_,T_,T_,T_,T_,F_,T_,F_,T_,F_,F_,F_,F_] (fun s_ => [(15, .int .i64 t158)]) (fun s_ w' => (w'.heap[gb157]? = some (.cells #[.int .i64 0, .int .i64 0, .int .i64 0, .int .i64 0, .int .i64 0] 73 (0, 0))) ∧ (Below w.heap.size w w')) ?_ ?_
           rotate_left
           ·intro hJ4
            refine join_ (σ := Nat) 6 #[T_,T_,T_,T_,F_,T_,F_,T_,F_,T_,F_,F_,T_,F_] (fun s_ => [(4, .pointer (some ⟨s_, 0, none⟩))]) (fun s_ w' => (w'.heap[gb157]? = some (.cells #[.int .i64 0, .int .i64 0, .int .i64 0, .int .i64 0, .int .i64 0] 73 (0, 0))) ∧ (w'.heap[s_]? = some (.cells #[.int .i64 0, .int .i64 0, .int .i64 0, .int .i64 0, .int .i64 0] 73 (0, 0))) ∧ (w.heap.size ≤ s_) ∧ (w.heap.size ≤ s_) ∧ (gb157 ≠ s_) ∧ (s_ ≠ gb157) ∧ (Below w.heap.size w w')) ?_ ?_
            rotate_left
            ·intro hJ12
             refine two_ (i := 4) (j := 12) (Ni := some 15) (Nj := some 4) #[T_,T_,T_,T_,T_,T_,F_,T_,F_,T_,F_,F_,F_,F_] #[T_,T_,T_,T_,F_,T_,F_,T_,F_,T_,F_,F_,T_,F_] rfl rfl rfl rfl (two_of HT_.out (by kernel_rfl)) (by decide) (by decide) (fun K hK => ?_) (fun K hK => ?_)
             ·skip
              refine gO Try.func71 #[.string a0, .int .i64 0] ?_
              with_reducible refine (rec_number.calls k a0 0 t158 _ A5.out).mono ?_
              rintro e w' ⟨rfl, ⟨nd, rfl⟩⟩
              refine ⟨_, rfl, ?_⟩
              refine hK.out _ _ trivial (fun hHeld => ?_)
              clear hK K
              refine nS (some 15) ?_
              exact norm_ (nP) (hJ4 () _ ⟨(qB BK157), qH⟩)
             ·skip
              refine box_step ?hg (N := 4) ?hd (cs := #[.int .i64 0, .int .i64 0, .int .i64 0, .int .i64 0, .int .i64 0]) (t := 73) ?hr ?_; (case hd => rfl); (case hg => rfl); (case hr => first | (go_simp; done) | (go_simp; rfl))
              intro gb162 hg w41 hbox hb
              have hz_ := zqA HB hb
              replace hb := below_step hz_ hb
              have BK162 := Aside0.mk hbox
              have GW162 := zG HB hz_ hg
              have GE162 := zG HB hz_ hg
              have NB157_162 := zN BK157 hz_ hg
              have NB162_157 := zM BK157 hz_ hg
              replace BK157 := zB BK157 hb
              replace HB := zH HB hb
              clear hz_
              clear hb hbox hg
              refine hK.out _ _ trivial (fun hHeld => ?_)
              clear hK K
              refine nS (some 4) ?_
              exact norm_ (nP) (hJ12 (gb162) _ ⟨(qB BK157), (qB BK162), GW162.out, GE162.out, NB157_162.out, NB162_157.out, qH⟩)
            ·skip
             rintro gb162 w42 ⟨h0_, h1_, h2_, h3_, h4_, h5_, h6_⟩
             have n0_ : Aside0 (w42.heap[gb157]? = some (.cells #[.int .i64 0, .int .i64 0, .int .i64 0, .int .i64 0, .int .i64 0] 73 (0, 0))) := ⟨h0_⟩
             have n1_ : Aside0 (w42.heap[gb162]? = some (.cells #[.int .i64 0, .int .i64 0, .int .i64 0, .int .i64 0, .int .i64 0] 73 (0, 0))) := ⟨h1_⟩
             have n2_ : Aside0 (w.heap.size ≤ gb162) := ⟨h2_⟩
             have n3_ : Aside0 (w.heap.size ≤ gb162) := ⟨h3_⟩
             have n4_ : Aside0 (gb157 ≠ gb162) := ⟨h4_⟩
             have n5_ : Aside0 (gb162 ≠ gb157) := ⟨h5_⟩
             have n6_ : Aside0 (Below w.heap.size w w42) := ⟨h6_⟩
             clear BK157
             clear HB
             clear h0_ h1_ h2_ h3_ h4_ h5_ h6_
             have BK157 := n0_
             have BK162 := n1_
             have GW162 := n2_
             have GE162 := n3_
             have NB157_162 := n4_
             have NB162_157 := n5_
             have HB := n6_
             clear n0_ n1_ n2_ n3_ n4_ n5_ n6_
             have hHeld := trivial
             refine nA ?_
             refine oN 4 (some 15) #[T_,T_,T_,T_,T_,T_,F_,T_,F_,T_,F_,F_,T_,F_] HT_ (fun K hK => ?_)
             refine gO Try.func71 #[.string a0, .int .i64 0] ?_
             with_reducible refine (rec_number.calls k a0 0 t158 _ A5.out).mono ?_
             rintro e w' ⟨rfl, ⟨nd, rfl⟩⟩
             refine ⟨_, rfl, ?_⟩
             refine hK.out _ _ trivial (fun hHeld => ?_)
             clear hK K
             refine nS (some 15) ?_
             exact norm_ (nP) (hJ4_12 (gb162) _ ⟨(qB BK157), (qB BK162), GW162.out, GE162.out, NB157_162.out, NB162_157.out, qH⟩)
           ·skip
            rintro _ w41 ⟨h0_, h1_⟩
            have n0_ : Aside0 (w41.heap[gb157]? = some (.cells #[.int .i64 0, .int .i64 0, .int .i64 0, .int .i64 0, .int .i64 0] 73 (0, 0))) := ⟨h0_⟩
            have n1_ : Aside0 (Below w.heap.size w w41) := ⟨h1_⟩
            clear BK157
            clear HB
            clear h0_ h1_
            have BK157 := n0_
            have HB := n1_
            clear n0_ n1_
            have hHeld := trivial
            refine nA ?_
            refine two_ (i := 6) (j := 12) (Ni := some 17) (Nj := some 4) #[T_,T_,T_,T_,T_,T_,T_,T_,F_,T_,F_,F_,F_,F_] #[T_,T_,T_,T_,T_,T_,F_,T_,F_,T_,F_,F_,T_,F_] rfl rfl rfl rfl (two_of HT_.out (by kernel_rfl)) (by decide) (by decide) (fun K hK => ?_) (fun K hK => ?_)
            ·skip
             refine gO Try.func71 #[.string a0, .int .i64 1] ?_
             with_reducible refine (rec_number.calls k a0 1 t159 _ A6.out).mono ?_
             rintro e w' ⟨rfl, ⟨nd, rfl⟩⟩
             refine ⟨_, rfl, ?_⟩
             refine hK.out _ _ trivial (fun hHeld => ?_)
             clear hK K
             refine nS (some 17) ?_
             exact norm_ (nP) (hJ4_6 () _ ⟨(qB BK157), qH⟩)
            ·skip
             refine box_step ?hg (N := 4) ?hd (cs := #[.int .i64 0, .int .i64 0, .int .i64 0, .int .i64 0, .int .i64 0]) (t := 73) ?hr ?_; (case hd => rfl); (case hg => rfl); (case hr => first | (go_simp; done) | (go_simp; rfl))
             intro gb162 hg w42 hbox hb
             have hz_ := zqA HB hb
             replace hb := below_step hz_ hb
             have BK162 := Aside0.mk hbox
             have GW162 := zG HB hz_ hg
             have GE162 := zG HB hz_ hg
             have NB157_162 := zN BK157 hz_ hg
             have NB162_157 := zM BK157 hz_ hg
             replace BK157 := zB BK157 hb
             replace HB := zH HB hb
             clear hz_
             clear hb hbox hg
             refine hK.out _ _ trivial (fun hHeld => ?_)
             clear hK K
             refine nS (some 4) ?_
             exact norm_ (nP) (hJ4_12 (gb162) _ ⟨(qB BK157), (qB BK162), GW162.out, GE162.out, NB157_162.out, NB162_157.out, qH⟩)
          ·skip
           rintro gb162 w42 ⟨h0_, h1_, h2_, h3_, h4_, h5_, h6_⟩
           have n0_ : Aside0 (w42.heap[gb157]? = some (.cells #[.int .i64 0, .int .i64 0, .int .i64 0, .int .i64 0, .int .i64 0] 73 (0, 0))) := ⟨h0_⟩
           have n1_ : Aside0 (w42.heap[gb162]? = some (.cells #[.int .i64 0, .int .i64 0, .int .i64 0, .int .i64 0, .int .i64 0] 73 (0, 0))) := ⟨h1_⟩
           have n2_ : Aside0 (w.heap.size ≤ gb162) := ⟨h2_⟩
           have n3_ : Aside0 (w.heap.size ≤ gb162) := ⟨h3_⟩
           have n4_ : Aside0 (gb157 ≠ gb162) := ⟨h4_⟩
           have n5_ : Aside0 (gb162 ≠ gb157) := ⟨h5_⟩
           have n6_ : Aside0 (Below w.heap.size w w42) := ⟨h6_⟩
           clear BK157
           clear HB
           clear h0_ h1_ h2_ h3_ h4_ h5_ h6_
           have BK157 := n0_
           have BK162 := n1_
           have GW162 := n2_
           have GE162 := n3_
           have NB157_162 := n4_
           have NB162_157 := n5_
           have HB := n6_
           clear n0_ n1_ n2_ n3_ n4_ n5_ n6_
           have hHeld := trivial
           refine nA ?_
           refine oN 6 (some 17) #[T_,T_,T_,T_,T_,T_,T_,T_,F_,T_,F_,F_,T_,F_] HT_ (fun K hK => ?_)
           refine gO Try.func71 #[.string a0, .int .i64 1] ?_
           with_reducible refine (rec_number.calls k a0 1 t159 _ A6.out).mono ?_
           rintro e w' ⟨rfl, ⟨nd, rfl⟩⟩
           refine ⟨_, rfl, ?_⟩
           refine hK.out _ _ trivial (fun hHeld => ?_)
           clear hK K
           refine nS (some 17) ?_
           exact norm_ (nP) (hJ4_6_12 (gb162) _ ⟨(qB BK157), (qB BK162), GW162.out, GE162.out, NB157_162.out, NB162_157.out, qH⟩)
         ·skip
          rintro _ w41 ⟨h0_, h1_⟩
          have n0_ : Aside0 (w41.heap[gb157]? = some (.cells #[.int .i64 0, .int .i64 0, .int .i64 0, .int .i64 0, .int .i64 0] 73 (0, 0))) := ⟨h0_⟩
          have n1_ : Aside0 (Below w.heap.size w w41) := ⟨h1_⟩
          clear BK157
          clear HB
          clear h0_ h1_
          have BK157 := n0_
          have HB := n1_
          clear n0_ n1_
          have hHeld := trivial
          refine nA ?_
          refine two_ (i := 8) (j := 12) (Ni := some 19) (Nj := some 4) #[T_,T_,T_,T_,T_,T_,T_,T_,T_,T_,F_,F_,F_,F_] #[T_,T_,T_,T_,T_,T_,T_,T_,F_,T_,F_,F_,T_,F_] rfl rfl rfl rfl (two_of HT_.out (by kernel_rfl)) (by decide) (by decide) (fun K hK => ?_) (fun K hK => ?_)
          ·skip
           refine gO Try.func71 #[.string a0, .int .i64 2] ?_
           with_reducible refine (rec_number.calls k a0 2 t160 _ A7.out).mono ?_
           rintro e w' ⟨rfl, ⟨nd, rfl⟩⟩
           refine ⟨_, rfl, ?_⟩
           refine hK.out _ _ trivial (fun hHeld => ?_)
           clear hK K
           refine nS (some 19) ?_
           exact norm_ (nP) (hJ4_6_8 () _ ⟨(qB BK157), qH⟩)
          ·skip
           refine box_step ?hg (N := 4) ?hd (cs := #[.int .i64 0, .int .i64 0, .int .i64 0, .int .i64 0, .int .i64 0]) (t := 73) ?hr ?_; (case hd => rfl); (case hg => rfl); (case hr => first | (go_simp; done) | (go_simp; rfl))
           intro gb162 hg w42 hbox hb
           have hz_ := zqA HB hb
           replace hb := below_step hz_ hb
           have BK162 := Aside0.mk hbox
           have GW162 := zG HB hz_ hg
           have GE162 := zG HB hz_ hg
           have NB157_162 := zN BK157 hz_ hg
           have NB162_157 := zM BK157 hz_ hg
           replace BK157 := zB BK157 hb
           replace HB := zH HB hb
           clear hz_
           clear hb hbox hg
           refine hK.out _ _ trivial (fun hHeld => ?_)
           clear hK K
           refine nS (some 4) ?_
           exact norm_ (nP) (hJ4_6_12 (gb162) _ ⟨(qB BK157), (qB BK162), GW162.out, GE162.out, NB157_162.out, NB162_157.out, qH⟩)
        ·skip
         rintro gb162 w42 ⟨h0_, h1_, h2_, h3_, h4_, h5_, h6_⟩
         have n0_ : Aside0 (w42.heap[gb157]? = some (.cells #[.int .i64 0, .int .i64 0, .int .i64 0, .int .i64 0, .int .i64 0] 73 (0, 0))) := ⟨h0_⟩
         have n1_ : Aside0 (w42.heap[gb162]? = some (.cells #[.int .i64 0, .int .i64 0, .int .i64 0, .int .i64 0, .int .i64 0] 73 (0, 0))) := ⟨h1_⟩
         have n2_ : Aside0 (w.heap.size ≤ gb162) := ⟨h2_⟩
         have n3_ : Aside0 (w.heap.size ≤ gb162) := ⟨h3_⟩
         have n4_ : Aside0 (gb157 ≠ gb162) := ⟨h4_⟩
         have n5_ : Aside0 (gb162 ≠ gb157) := ⟨h5_⟩
         have n6_ : Aside0 (Below w.heap.size w w42) := ⟨h6_⟩
         clear BK157
         clear HB
         clear h0_ h1_ h2_ h3_ h4_ h5_ h6_
         have BK157 := n0_
         have BK162 := n1_
         have GW162 := n2_
         have GE162 := n3_
         have NB157_162 := n4_
         have NB162_157 := n5_
         have HB := n6_
         clear n0_ n1_ n2_ n3_ n4_ n5_ n6_
         have hHeld := trivial
         refine nA ?_
         refine oN 8 (some 19) #[T_,T_,T_,T_,T_,T_,T_,T_,T_,T_,F_,F_,T_,F_] HT_ (fun K hK => ?_)
         refine gO Try.func71 #[.string a0, .int .i64 2] ?_
         with_reducible refine (rec_number.calls k a0 2 t160 _ A7.out).mono ?_
         rintro e w' ⟨rfl, ⟨nd, rfl⟩⟩
         refine ⟨_, rfl, ?_⟩
         refine hK.out _ _ trivial (fun hHeld => ?_)
         clear hK K
         refine nS (some 19) ?_
         exact norm_ (nP) (hJ4_6_8_12 (gb162) _ ⟨(qB BK157), (qB BK162), GW162.out, GE162.out, NB157_162.out, NB162_157.out, qH⟩)
       ·skip
        rintro _ w41 ⟨h0_, h1_⟩
        have n0_ : Aside0 (w41.heap[gb157]? = some (.cells #[.int .i64 0, .int .i64 0, .int .i64 0, .int .i64 0, .int .i64 0] 73 (0, 0))) := ⟨h0_⟩
        have n1_ : Aside0 (Below w.heap.size w w41) := ⟨h1_⟩
        clear BK157
        clear HB
        clear h0_ h1_
        have BK157 := n0_
        have HB := n1_
        clear n0_ n1_
        have hHeld := trivial
        refine nA ?_
        refine two_ (i := 10) (j := 12) (Ni := some 21) (Nj := some 4) #[T_,T_,T_,T_,T_,T_,T_,T_,T_,T_,T_,F_,F_,F_] #[T_,T_,T_,T_,T_,T_,T_,T_,T_,T_,F_,F_,T_,F_] rfl rfl rfl rfl (two_of HT_.out (by kernel_rfl)) (by decide) (by decide) (fun K hK => ?_) (fun K hK => ?_)
        ·skip
         refine gO Try.func71 #[.string a0, .int .i64 3] ?_
         with_reducible refine (rec_number.calls k a0 3 t161 _ A8.out).mono ?_
         rintro e w' ⟨rfl, ⟨nd, rfl⟩⟩
         refine ⟨_, rfl, ?_⟩
         refine hK.out _ _ trivial (fun hHeld => ?_)
         clear hK K
         refine nS (some 21) ?_
         refine pU 11 (some 22) #[T_,T_,T_,T_,T_,T_,T_,T_,T_,T_,T_,T_,F_,F_] HT_ ?_
         exact norm_ (nP) (hJ4_6_8_10 () _ ⟨(qB BK157), qH⟩)
        ·skip
         refine box_step ?hg (N := 4) ?hd (cs := #[.int .i64 0, .int .i64 0, .int .i64 0, .int .i64 0, .int .i64 0]) (t := 73) ?hr ?_; (case hd => rfl); (case hg => rfl); (case hr => first | (go_simp; done) | (go_simp; rfl))
         intro gb162 hg w42 hbox hb
         have hz_ := zqA HB hb
         replace hb := below_step hz_ hb
         have BK162 := Aside0.mk hbox
         have GW162 := zG HB hz_ hg
         have GE162 := zG HB hz_ hg
         have NB157_162 := zN BK157 hz_ hg
         have NB162_157 := zM BK157 hz_ hg
         replace BK157 := zB BK157 hb
         replace HB := zH HB hb
         clear hz_
         clear hb hbox hg
         refine hK.out _ _ trivial (fun hHeld => ?_)
         clear hK K
         refine nS (some 4) ?_
         exact norm_ (nP) (hJ4_6_8_12 (gb162) _ ⟨(qB BK157), (qB BK162), GW162.out, GE162.out, NB157_162.out, NB162_157.out, qH⟩)
      ·skip
       rintro gb162 w42 ⟨h0_, h1_, h2_, h3_, h4_, h5_, h6_⟩
       have n0_ : Aside0 (w42.heap[gb157]? = some (.cells #[.int .i64 0, .int .i64 0, .int .i64 0, .int .i64 0, .int .i64 0] 73 (0, 0))) := ⟨h0_⟩
       have n1_ : Aside0 (w42.heap[gb162]? = some (.cells #[.int .i64 0, .int .i64 0, .int .i64 0, .int .i64 0, .int .i64 0] 73 (0, 0))) := ⟨h1_⟩
       have n2_ : Aside0 (w.heap.size ≤ gb162) := ⟨h2_⟩
       have n3_ : Aside0 (w.heap.size ≤ gb162) := ⟨h3_⟩
       have n4_ : Aside0 (gb157 ≠ gb162) := ⟨h4_⟩
       have n5_ : Aside0 (gb162 ≠ gb157) := ⟨h5_⟩
       have n6_ : Aside0 (Below w.heap.size w w42) := ⟨h6_⟩
       clear BK157
       clear HB
       clear h0_ h1_ h2_ h3_ h4_ h5_ h6_
       have BK157 := n0_
       have BK162 := n1_
       have GW162 := n2_
       have GE162 := n3_
       have NB157_162 := n4_
       have NB162_157 := n5_
       have HB := n6_
       clear n0_ n1_ n2_ n3_ n4_ n5_ n6_
       have hHeld := trivial
       refine nA ?_
       refine oN 10 (some 21) #[T_,T_,T_,T_,T_,T_,T_,T_,T_,T_,T_,F_,T_,F_] HT_ (fun K hK => ?_)
       refine gO Try.func71 #[.string a0, .int .i64 3] ?_
       with_reducible refine (rec_number.calls k a0 3 t161 _ A8.out).mono ?_
       rintro e w' ⟨rfl, ⟨nd, rfl⟩⟩
       refine ⟨_, rfl, ?_⟩
       refine hK.out _ _ trivial (fun hHeld => ?_)
       clear hK K
       refine nS (some 21) ?_
       refine pU 11 (some 22) #[T_,T_,T_,T_,T_,T_,T_,T_,T_,T_,T_,T_,T_,F_] HT_ ?_
       exact norm_ (nP) (hJ4_6_8_10_12 (gb162) _ ⟨(qB BK157), (qB BK162), GW162.out, GE162.out, NB157_162.out, NB162_157.out, qH⟩)
     ·skip
      rintro _ w41 ⟨h0_, h1_⟩
      have n0_ : Aside0 (w41.heap[gb157]? = some (.cells #[.int .i64 0, .int .i64 0, .int .i64 0, .int .i64 0, .int .i64 0] 73 (0, 0))) := ⟨h0_⟩
      have n1_ : Aside0 (Below w.heap.size w w41) := ⟨h1_⟩
      clear BK157
      clear HB
      clear h0_ h1_
      have BK157 := n0_
      have HB := n1_
      clear n0_ n1_
      have hHeld := trivial
      refine nA ?_
      refine oN 12 (some 4) #[T_,T_,T_,T_,T_,T_,T_,T_,T_,T_,T_,T_,T_,F_] HT_ (fun K hK => ?_)
      refine box_step ?hg (N := 4) ?hd (cs := #[.int .i64 0, .int .i64 0, .int .i64 0, .int .i64 0, .int .i64 0]) (t := 73) ?hr ?_; (case hd => rfl); (case hg => rfl); (case hr => first | (go_simp; done) | (go_simp; rfl))
      intro gb162 hg w42 hbox hb
      have hz_ := zqA HB hb
      replace hb := below_step hz_ hb
      have BK162 := Aside0.mk hbox
      have GW162 := zG HB hz_ hg
      have GE162 := zG HB hz_ hg
      have NB157_162 := zN BK157 hz_ hg
      have NB162_157 := zM BK157 hz_ hg
      replace BK157 := zB BK157 hb
      replace HB := zH HB hb
      clear hz_
      clear hb hbox hg
      refine hK.out _ _ trivial (fun hHeld => ?_)
      clear hK K
      refine nS (some 4) ?_
      exact norm_ (nP) (hJ4_6_8_10_12 (gb162) _ ⟨(qB BK157), (qB BK162), GW162.out, GE162.out, NB157_162.out, NB162_157.out, qH⟩)
    rintro gb162 w42 ⟨h0_, h1_, h2_, h3_, h4_, h5_, h6_⟩
    have n0_ : Aside0 (w42.heap[gb157]? = some (.cells #[.int .i64 0, .int .i64 0, .int .i64 0, .int .i64 0, .int .i64 0] 73 (0, 0))) := ⟨h0_⟩
    have n1_ : Aside0 (w42.heap[gb162]? = some (.cells #[.int .i64 0, .int .i64 0, .int .i64 0, .int .i64 0, .int .i64 0] 73 (0, 0))) := ⟨h1_⟩
    have n2_ : Aside0 (w.heap.size ≤ gb162) := ⟨h2_⟩
    have n3_ : Aside0 (w.heap.size ≤ gb162) := ⟨h3_⟩
    have n4_ : Aside0 (gb157 ≠ gb162) := ⟨h4_⟩
    have n5_ : Aside0 (gb162 ≠ gb157) := ⟨h5_⟩
    have n6_ : Aside0 (Below w.heap.size w w42) := ⟨h6_⟩
    clear BK157
    clear HB
    clear h0_ h1_ h2_ h3_ h4_ h5_ h6_
    have BK157 := n0_
    have BK162 := n1_
    have GE162 := n3_
    have NB157_162 := n4_
    have NB162_157 := n5_
    have HB := n6_
    clear n0_ n1_ n2_ n3_ n4_ n5_ n6_
    have hHeld := trivial
    refine nA ?_
    refine oN 13 (none) #[T_,T_,T_,T_,T_,T_,T_,T_,T_,T_,T_,T_,T_,T_] HT_ (fun K hK => ?_)
    have hs43 : w42.cell? ⟨gb162, 0, none⟩ = some (.int .i64 0) := c0_ BK162
    have hfs43 := xF_ BK162.out 0
    have hns43_0 := NB157_162.out
    have hms43_0 := NB162_157.out
    have hs44 : w42.cell? ⟨gb162, 1, none⟩ = some (.int .i64 0) := c1_ BK162
    have hfs44 := xF_ BK162.out 1
    have hns44_0 := NB157_162.out
    have hms44_0 := NB162_157.out
    have hs45 : w42.cell? ⟨gb162, 2, none⟩ = some (.int .i64 0) := c2_ BK162
    have hfs45 := xF_ BK162.out 2
    have hns45_0 := NB157_162.out
    have hms45_0 := NB162_157.out
    have hs46 : w42.cell? ⟨gb162, 3, none⟩ = some (.int .i64 0) := c3_ BK162
    have hfs46 := xF_ BK162.out 3
    have hns46_0 := NB157_162.out
    have hms46_0 := NB162_157.out
    have hs47 : w42.cell? ⟨gb162, 4, none⟩ = some (.int .i64 0) := c4_ BK162
    have hfs47 := xF_ BK162.out 4
    have hns47_0 := NB157_162.out
    have hms47_0 := NB162_157.out
    refine skip_ (w1 := ?_) (by rfl) rfl ?_ ?_
    rotate_left
    ·go_simp
     rfl
    refine hK.out _ _ trivial (fun hHeld => ?_)
    clear hK K
    refine done_ (done_of HT_.out (by kernel_rfl)) ?_
    obtain ⟨hnb48, hnc48⟩ := nn_ NB162_157
    obtain ⟨hcz49_0, hcz49_1, hcz49_2, hcz49_3, hcz49_4, hfz49_0, hfz49_1, hfz49_2, hfz49_3, hfz49_4⟩ := e5_ BK162
    try go_wp2_with (first | ((with_reducible refine gate_callee (f := 57) rfl ?_); refine gL (some 25) Try.func57 #[.agg #[.int .i64 (wrap64 (bt a0 1)), .int .i64 t158, .int .i64 t159, .int .i64 t160, .int .i64 t161]] ?_; (with_reducible refine (rec_Head_Text.calls k (wrap64 (bt a0 1)) t158 t159 t160 t161 t163 false _ A9.out).mono ?_); rintro e w50 ⟨rfl, hb⟩; refine ⟨_, rfl, ?_⟩; replace BK157 := wF BK157 hb; replace BK162 := wP5 BK162 hb; replace HB := wH hb; (try clear hb); obtain ⟨hcz51_0, hcz51_1, hcz51_2, hcz51_3, hcz51_4, hfz51_0, hfz51_1, hfz51_2, hfz51_3, hfz51_4⟩ := e5_ BK157))
    refine bodyPost_ret (results_ct rfl _ _ gb157 73 #[.int .i64 0, .int .i64 0, .int .i64 0, .int .i64 0, .int .i64 0] (0, 0) _ rfl (by (with_reducible repeat (first | apply xN_ | apply xD_ | apply xA_)); refine blk_put (cs := #[.int .i64 0, .int .i64 0, .int .i64 0, .int .i64 0, .int .i64 0]) ?_ 4 _ rfl; refine blk_put (cs := #[.int .i64 0, .int .i64 0, .int .i64 0, .int .i64 0, .int .i64 0]) ?_ 3 _ rfl; refine blk_put (cs := #[.int .i64 0, .int .i64 0, .int .i64 0, .int .i64 0, .int .i64 0]) ?_ 2 _ rfl; refine blk_put (cs := #[.int .i64 0, .int .i64 0, .int .i64 0, .int .i64 0, .int .i64 0]) ?_ 1 _ rfl; refine blk_put (cs := #[.int .i64 0, .int .i64 0, .int .i64 0, .int .i64 0, .int .i64 0]) ?_ 0 _ rfl; (with_reducible repeat (first | apply xN_ | apply xD_ | apply xA_)); exact BK157.out) Try.underlying73 rfl (by kernel_rfl)) rfl ?_
    exact ⟨eX, qH⟩
  ·rw [if_neg c3] at H
   exact absurd H (by simp)
 ·rw [if_neg c2] at H
  have c2b0 : ((a0.size : Int) == 32) = false := beq_eq_false_iff_ne.mpr c2
  have c2b1 : ((a0.size : Int) != 32) = true := bne_iff_ne.mpr c2
  simp only [Option.some.injEq, Prod.mk.injEq] at H
  obtain ⟨rfl, rfl, rfl, rfl, rfl, rfl⟩ := H
  go_enter Try.func53, Try.ntmps53
  go_wp2_with (first | ((with_reducible refine gate_dst (N := 2) rfl ?_); refine bE (N := 2) (cs := #[.int .i64 0, .int .i64 0, .int .i64 0, .int .i64 0, .int .i64 0]) (t := 73) ?_; intro gb157 hg w52 hbox hb; have hz_ := zqA HB hb; replace hb := below_step hz_ hb; have BK157 := Aside0.mk hbox; have GE157 := zG HB hz_ hg; replace HB := zH HB hb; clear hz_; clear hb hbox hg; obtain ⟨hcz53_0, hcz53_1, hcz53_2, hcz53_3, hcz53_4, hfz53_0, hfz53_1, hfz53_2, hfz53_3, hfz53_4⟩ := e5_ BK157))
  refine bodyPost_ret (results_ct rfl _ _ gb157 73 #[.int .i64 0, .int .i64 0, .int .i64 0, .int .i64 0, .int .i64 0] (0, 0) _ rfl (by (with_reducible repeat (first | apply xN_ | apply xD_ | apply xA_)); refine blk_put (cs := #[.int .i64 0, .int .i64 0, .int .i64 0, .int .i64 0, .int .i64 0]) ?_ 4 _ rfl; refine blk_put (cs := #[.int .i64 0, .int .i64 0, .int .i64 0, .int .i64 0, .int .i64 0]) ?_ 3 _ rfl; refine blk_put (cs := #[.int .i64 0, .int .i64 0, .int .i64 0, .int .i64 0, .int .i64 0]) ?_ 2 _ rfl; refine blk_put (cs := #[.int .i64 0, .int .i64 0, .int .i64 0, .int .i64 0, .int .i64 0]) ?_ 1 _ rfl; refine blk_put (cs := #[.int .i64 0, .int .i64 0, .int .i64 0, .int .i64 0, .int .i64 0]) ?_ 0 _ rfl; (with_reducible repeat (first | apply xN_ | apply xD_ | apply xA_)); exact BK157.out) Try.underlying73 rfl (by kernel_rfl)) rfl ?_
  exact ⟨eX, qH⟩
def rec_Cut.l0 : Nat → ByteArray → List ByteArray → Option (List ByteArray)
 | 0, _, _ => none
 | k + 1, x0, x3 => if x0.toList = ([] : List UInt8) then (some x3) else (if 0 ≤ (mn 31 (x0.size : Int)) then (if (mn 31 (x0.size : Int)) ≤ (x0.size : Int) then (if 1 + (x0.extract 0 ((mn 31 (x0.size : Int)) : Int).toNat).size ≤ 9223372036854775807 then ((rec_filled.f ((⟨#[68]⟩ : ByteArray) ++ (x0.extract 0 ((mn 31 (x0.size : Int)) : Int).toNat))).bind fun t181 => (if x3.length < 8796093022208 then (rec_Cut.l0 k (x0.extract ((mn 31 (x0.size : Int)) : Int).toNat x0.size) (x3 ++ [t181])) else (none))) else (none)) else (none)) else (none))
def rec_Cut.f (k : Nat) (a0 : ByteArray) : Option (List ByteArray) := if (a0.size : Int) > 4096 then (some ([] : List ByteArray)) else (rec_Cut.l0 k a0 ([] : List ByteArray))
theorem rec_Cut.mono_l : ∀ k, (∀ y0 y1, LeO (rec_Cut.l0 k y0 y1) (rec_Cut.l0 (k + 1) y0 y1))
 | 0 => fun _ _ r h => by simp [rec_Cut.l0] at h
 | k + 1 => by
  have ih0 := rec_Cut.mono_l k
  ·intro y0 y1
   unfold rec_Cut.l0
   repeat' first
   | (with_reducible exact ih0 _ _)
   | (with_reducible exact LeO.refl _)
   | (with_reducible exact LeO.none _)
   | (with_reducible refine LeO.ite ?_ ?_)
   | (with_reducible refine LeO.bind ?_ (fun _ => ?_))
   | exact ih0 _ _
   | exact LeO.none _
   | refine LeO.ite ?_ ?_
   | refine LeO.bind ?_ (fun _ => ?_)
theorem rec_Cut.mono : ∀ a0 k, LeO (rec_Cut.f k a0) (rec_Cut.f (k + 1) a0) := by
 intro a0 k
 have ih0 := rec_Cut.mono_l k
 unfold rec_Cut.f
 repeat' first
   | (with_reducible exact ih0 _ _)
   | (with_reducible exact LeO.refl _)
   | (with_reducible exact LeO.none _)
   | (with_reducible refine LeO.ite ?_ ?_)
   | (with_reducible refine LeO.bind ?_ (fun _ => ?_))
   | exact ih0 _ _
   | exact LeO.none _
   | refine LeO.ite ?_ ?_
   | refine LeO.bind ?_ (fun _ => ?_)
set_option maxHeartbeats 8000000 in
set_option maxRecDepth 100000 in
theorem rec_Cut.calls (k : Nat) (a0 : ByteArray) (r : List ByteArray) (w : World) (h : rec_Cut.f k a0 = some r) :
  Calls Try.prog 44 #[.string a0] w fun e w' => ∃ v0_ : Value, e = .returned (v0_) ∧ Kd.R Kd.string 9 w' w.heap.size (fun _ => True) v0_ r ∧ Below w.heap.size w w' := by
 have HB := Aside0.mk (Below.refl w.heap.size w)
 have H : (if (a0.size : Int) > 4096 then (some ([] : List ByteArray)) else (rec_Cut.l0 k a0 ([] : List ByteArray))) = some r := h
 clear h
 by_cases c2 : (a0.size : Int) > 4096
 ·rw [if_pos c2] at H
  have c2b0 : decide (4096 < (a0.size : Int)) = true := decide_eq_true c2
  have c2b1 : decide (4096 < a0.size) = true := decide_eq_true (by omega)
  clear c2
  obtain rfl := Option.some.inj H
  go_enter Try.func44, Try.ntmps44
  go_wp2
  go_ret
  exact ⟨_, eX, by first | exact Kd.R_nil _ _ _ _ _ | exact Kd.N_nil _ _ _ _ _ | exact Kd.V_nil _ _ _ _ _ | exact Kd.Q_nil _ _ _ _ _ | exact Kd.S_nil _ _ _ _ _, qH⟩
 ·rw [if_neg c2] at H
  have c2b0 : decide (4096 < (a0.size : Int)) = false := decide_eq_false c2
  have c2b1 : decide (4096 < a0.size) = false := decide_eq_false (by omega)
  clear c2
  have H' := Aside0.mk H
  clear H
  go_enter Try.func44, Try.ntmps44
  go_wp2
  go_loopg [0, 3] k (fun kq v0 v3 w' => ∃ (x0_1 : ByteArray) (x3_1 : List ByteArray), v0 = .string x0_1 ∧ Aside0 (rec_Cut.l0 kq x0_1 x3_1 = some r) ∧ Aside0 (kq ≤ k) ∧ Aside0 (Kd.R Kd.string 9 w' w.heap.size (fun _ => True) v3 x3_1) ∧ Aside0 (Below w.heap.size w w'))
  case atStart => exact ⟨(a0), (([] : List ByteArray)), eY, H', ⟨Nat.le_refl _⟩, ⟨by first | exact Kd.R_nil _ _ _ _ _ | exact Kd.N_nil _ _ _ _ _ | exact Kd.V_nil _ _ _ _ _ | exact Kd.Q_nil _ _ _ _ _ | exact Kd.S_nil _ _ _ _ _⟩, ⟨qH⟩⟩
  case round =>
   clear H'
   (try clear c2b0); (try clear c2b1); (try clear p2)
   obtain ⟨x0_1, x3_1, rfl, HA, HK1, HO_3, HB⟩ := hrel
   cases gk with
   | zero => exact absurd HA.out (by simp [rec_Cut.l0])
   | succ k1 =>
    have H := HA.out
    clear HA
    simp only [rec_Cut.l0] at H
    by_cases c3 : x0_1.toList = ([] : List UInt8)
    ·rw [if_pos c3] at H
     have c3b0 : (x0_1.toList == ([] : List UInt8)) = true := beq_iff_eq.mpr c3
     have c3b1 : (x0_1.toList != ([] : List UInt8)) = false := bne_eq_false_iff_eq.mpr c3
     clear c3
     obtain rfl := Option.some.inj H
     go_wp2
     go_ret
     exact ⟨_, eX, qR HO_3.out, qH⟩
    ·rw [if_neg c3] at H
     have c3b0 : (x0_1.toList == ([] : List UInt8)) = false := beq_eq_false_iff_ne.mpr c3
     have c3b1 : (x0_1.toList != ([] : List UInt8)) = true := bne_iff_ne.mpr c3
     obtain ⟨ji4, hji4⟩ : ∃ j_ : Int, (mn 31 (x0_1.size : Int)) = j_ := ⟨_, rfl⟩
     replace H : (if 0 ≤ (ji4) then (if (ji4) ≤ (x0_1.size : Int) then (if 1 + (x0_1.extract 0 ((ji4) : Int).toNat).size ≤ 9223372036854775807 then ((rec_filled.f ((⟨#[68]⟩ : ByteArray) ++ (x0_1.extract 0 ((ji4) : Int).toNat))).bind fun t181 => (if x3_1.length < 8796093022208 then (rec_Cut.l0 k1 (x0_1.extract ((ji4) : Int).toNat x0_1.size) (x3_1 ++ [t181])) else (none))) else (none)) else (none)) else (none)) = some r := by first | (rw [hji4] at H; exact H) | (simp only [hji4] at H ⊢; exact H)
     have hji4_ : (if (x0_1.size : Int) < 31 then (x0_1.size : Int) else 31) = ji4 := hji4
     by_cases c5 : 0 ≤ (ji4)
     ·rw [if_pos c5] at H
      have c5b0 := eq_true c5
      have c5b1 : decide (0 ≤ (ji4)) = true := decide_eq_true c5
      clear c5
      by_cases c6 : (ji4) ≤ (x0_1.size : Int)
      ·rw [if_pos c6] at H
       have c6b0 := eq_true c6
       have c6b1 : decide ((ji4) ≤ (x0_1.size : Int)) = true := decide_eq_true c6
       clear c6
       by_cases c7 : 1 + (x0_1.extract 0 ((ji4) : Int).toNat).size ≤ 9223372036854775807
       ·rw [if_pos c7] at H
        have c7b0 := eq_true c7
        have c7b1 : decide (1 + (x0_1.extract 0 ((ji4) : Int).toNat).size ≤ 9223372036854775807) = true := decide_eq_true c7
        try have c7b2 : (9223372036854775807 < 1 + (x0_1.extract 0 ((ji4) : Int).toNat).size) = False := eq_false (Nat.not_lt.2 c7)
        (try (have c7b3 := c7; simp only [ByteArray.size_append, ByteArray.size_extract] at c7b3; have c7b4 := eq_true c7b3; have c7b5 := decide_eq_true c7b3; have c7b6 := eq_false (Nat.not_lt.2 c7b3)))
        replace H := Option.bind_eq_some_iff.mp H
        obtain ⟨t181, A80, H⟩ := H
        try dsimp only at H
        have A8 := Aside0.mk A80
        clear A80
        by_cases c9 : x3_1.length < 8796093022208
        ·rw [if_pos c9] at H
         have LMc9 := Aside0.mk c9
         clear c9
         obtain ⟨y182, hy182⟩ : ∃ y_ : List ByteArray, y_ = (x3_1 ++ [t181]) := ⟨_, rfl⟩
         replace H : (rec_Cut.l0 k1 (x0_1.extract ((ji4) : Int).toNat x0_1.size) y182) = some r := by first | (rw [hy182]; with_reducible exact H) | (have H2_ := (Option.bind_some _ _).symm.trans H; rw [hy182]; with_reducible exact H2_) | (have H2_ := (Option.bind_some _ _).symm.trans H; with_reducible exact H2_) | with_reducible exact H | (rw [hy182]; exact H) | exact H
         have Ny182 := Aside0.mk hy182
         clear hy182
         have c10b0 := eq_true (of_decide_eq_true aS : 0 ≤ (ji4))
         have c11b0 := eq_true (of_decide_eq_true aS : (ji4) ≤ (x0_1.size : Int))
         have H' := Aside0.mk H
         clear H
         go_wp2_with (first | ((with_reducible refine gate_callee (f := 63) rfl ?_); refine goesL_ (some 18) rfl rfl Try.func63 (by kernel_rfl) rfl #[.string ((⟨#[68]⟩ : ByteArray) ++ (x0_1.extract 0 ((ji4) : Int).toNat))] rfl (by (try simp only [List.map_toArray, List.map_cons, List.map_nil]); first | done | (simp only [hji4]; rfl) | rfl | (simp only [List.length_drop, List.length_take]; rfl)) ?_; (with_reducible refine (rec_filled.calls ((⟨#[68]⟩ : ByteArray) ++ (x0_1.extract 0 ((ji4) : Int).toNat)) t181 _ A8.out).mono ?_); rintro e w12 ⟨rfl, hb⟩; refine ⟨_, rfl, ?_⟩; have n0_ := Aside0.mk (Kd.R_below (qR HO_3.out) hb); have n1_ := wH hb; clear HO_3; clear HB; have HO_3 := n0_; have HB := n1_; clear n0_ n1_; (try clear hb); (try clear hb2); (try clear hk); (try clear hi)) | ((with_reducible refine gate_builtin (b := .append) (xs := #[.tmp 13, .tmp 19]) rfl ?_); at_builtin; refine Kd.R_append Kd.string (w0 := w) w.heap.size rfl (.tmp 13) (.tmp 19) 22 9 (.string ⟨#[]⟩) 16 rfl Try.underlying22 info9 rfl (by decide) (by omega) u3 x3_1 t181 [.string t181] (fun _ => True) (fun _ => False) rfl rfl ?aP (fun _ hk => hk.elim) ?aF ?aO ?aB ?aS ?aL ?_; (case aP => exact rfl); (case aB => exact qH); (case aF => exact (fun _ _ => trivial)); (case aO => exact (qR HO_3.out)); (case aS => exact (below_size qH)); (case aL => have := LMc9.out; omega); intro v183 w13 ho hb hg hat; rw [← Ny182.out] at ho; have n0_ := Aside0.mk (hb); have n1_ := Aside0.mk (ho); clear HB; clear HO_3; have HB := n0_; have HO184 := n1_; clear n0_ n1_; clear ho hb hg hat))
         go_roundg k1
         case measure => have := HK1.out; omega
         case rel => exact ⟨(x0_1.extract ((ji4) : Int).toNat x0_1.size), (y182), (by first | rfl | (simp; done) | (simp only [← hji4] <;> (first | rfl | simp)) | (simp [*]; done)), H', ⟨by have := HK1.out; omega⟩, ⟨qR HO184.out⟩, ⟨qH⟩⟩
        ·rw [if_neg c9] at H
         exact absurd H (by simp)
       ·rw [if_neg c7] at H
        exact absurd H (by simp)
      ·rw [if_neg c6] at H
       exact absurd H (by simp)
     ·rw [if_neg c5] at H
      exact absurd H (by simp)
end Go.Proofs.Ythoddglnfdmdeaa.P
