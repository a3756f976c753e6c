/- Printed functions, merged. -/
import Derived.Test.YthoddglnfdmdeaaZJSM0
import Derived.Test.YthoddglnfdmdeaaZJSH3
import Derived.Test.YthoddglnfdmdeaaZJSM1
import Derived.Test.YthoddglnfdmdeaaZJSAl
namespace Go.Proofs.Ythoddglnfdmdeaa.P
open Go.RowKit Go.Proofs.YthoddglnfdmdeaaW.PrintWords Go.Proofs.YthoddglnfdmdeaaW.PrintLast Go.Proofs.YthoddglnfdmdeaaW.PrintMore
attribute [local go_sem] max2_int min2_int max_two min_two max_three min_three max_four min_four   -- for this text's walks alone
set_option linter.unusedVariables false
set_option linter.unusedSimpArgs false
def rec_Head_may.f (k : Nat) (a0_0 : Int) (a0_1 : Int) (a0_2 : Int) (a0_3 : Int) (a0_4 : Int) : Option (Bool) := (rec_in.f a0_0 1 2).bind fun t132 => (if t132 = true then ((rec_in.f a0_1 0 1073741824).bind fun t133 => (if t133 = true then ((rec_in.f a0_2 0 65535).bind fun t134 => (if t134 = true then ((rec_in.f a0_3 0 4096).bind fun t135 => (if t135 = true then (if a0_4 = 0 then (some true) else ((sum_Roll.f k a0_4 (⟨#[]⟩ : ByteArray)).bind fun t136 => (some (t136 == a0_4)))) else (some false))) else (some false))) else (some false))) else (some false))
theorem rec_Head_may.mono : ∀ a0 a1 a2 a3 a4 k, LeO (rec_Head_may.f k a0 a1 a2 a3 a4) (rec_Head_may.f (k + 1) a0 a1 a2 a3 a4) := by
 intro a0 a1 a2 a3 a4 k
 unfold rec_Head_may.f
 repeat' first
   | (with_reducible exact sum_Roll.mono _ _ _)
   | (with_reducible exact LeO.refl _)
   | (with_reducible exact LeO.none _)
   | (with_reducible refine LeO.ite ?_ ?_)
   | (with_reducible refine LeO.bind ?_ (fun _ => ?_))
   | exact sum_Roll.mono _ _ _
   | exact LeO.none _
   | refine LeO.ite ?_ ?_
   | refine LeO.bind ?_ (fun _ => ?_)
def rec_Head_may.B1 : List Nat := [0, 1, 3, 7, 15, 31, 63, 127, 255, 511, 1023, 2047, 4095, 8191, 16383, 32767, 65535, 131071, 262143, 524287, 1048575, 2097151, 4194303, 8388607, 16777215, 33554431, 8388607, 75497471, 268435455, 536870911, 1073741823, 2147483647]
theorem quietD {P : Program} {f : FuncId} {args : Array Value} {w : World} {n : Nat} {v : Value}
  (h : Calls P f args (w.drewN n) fun e w' => e = .returned v ∧ Drawn0 (w.drewN n) w') : Calls P f args (w.drewN n) fun e w'' => e = .returned v ∧ ∃ m, w'' = w.drewN m :=
 Calls.quiet_of (h.mono fun _ _ ⟨he, hd⟩ => ⟨he, hd.out⟩)
set_option maxHeartbeats 8000000 in
set_option maxRecDepth 100000 in
theorem rec_Head_may.calls (k : Nat) (a0_0 : Int) (a0_1 : Int) (a0_2 : Int) (a0_3 : Int) (a0_4 : Int) (r : Bool) (w : World) (h : rec_Head_may.f k a0_0 a0_1 a0_2 a0_3 a0_4 = some r) :
  Calls Try.prog 55 #[.agg #[.int .i64 a0_0, .int .i64 a0_1, .int .i64 a0_2, .int .i64 a0_3, .int .i64 a0_4]] w fun e w' => e = .returned (.bool r) ∧ Below w.heap.size w w' := by
 have hu := Try.underlying73
 unfold rec_Head_may.f at h
 obtain ⟨t1, q1, h⟩ := Option.bind_eq_some_iff.1 h
 have Q1 := Aside0.mk q1; clear q1
 have fin : ∀ n, Below w.heap.size w ((w.alloc (.cells #[.int .i64 a0_0, .int .i64 a0_1, .int .i64 a0_2, .int .i64 a0_3, .int .i64 a0_4] 73)).drewN n) := fun n => yN_ ((Below.refl _ _).alloc (Nat.le_refl _) _) _
 have FIN := Aside0.mk fin; clear fin
 go_enter Try.func55, Try.ntmps55
 go_wp2
 cases t1
 ·rw [if_neg (by decide)] at h
  obtain rfl := Option.some.inj h
  clear h
  go_quiet ((go_at_call 62; first | (with_reducible exact quietD (rec_in.calls _ _ _ _ _ Q1.out))))
  go_wp2
  go_ret
  exact ⟨rfl, FIN.out _⟩
 rw [if_pos rfl] at h
 obtain ⟨t2, q2, h⟩ := Option.bind_eq_some_iff.1 h
 have Q2 := Aside0.mk q2; clear q2
 cases t2
 ·rw [if_neg (by decide)] at h
  obtain rfl := Option.some.inj h
  clear h
  go_quiet ((go_at_call 62; first | (with_reducible exact quietD (rec_in.calls _ _ _ _ _ Q1.out)) | (with_reducible exact quietD (rec_in.calls _ _ _ _ _ Q2.out))))
  go_wp2
  go_ret
  exact ⟨rfl, FIN.out _⟩
 rw [if_pos rfl] at h
 obtain ⟨t3, q3, h⟩ := Option.bind_eq_some_iff.1 h
 have Q3 := Aside0.mk q3; clear q3
 cases t3
 ·rw [if_neg (by decide)] at h
  obtain rfl := Option.some.inj h
  clear h
  go_quiet ((go_at_call 62; first | (with_reducible exact quietD (rec_in.calls _ _ _ _ _ Q1.out)) | (with_reducible exact quietD (rec_in.calls _ _ _ _ _ Q2.out)) | (with_reducible exact quietD (rec_in.calls _ _ _ _ _ Q3.out))))
  go_wp2
  go_ret
  exact ⟨rfl, FIN.out _⟩
 rw [if_pos rfl] at h
 obtain ⟨t4, q4, h⟩ := Option.bind_eq_some_iff.1 h
 have Q4 := Aside0.mk q4; clear q4
 cases t4
 ·rw [if_neg (by decide)] at h
  obtain rfl := Option.some.inj h
  clear h
  go_quiet ((go_at_call 62; first | (with_reducible exact quietD (rec_in.calls _ _ _ _ _ Q1.out)) | (with_reducible exact quietD (rec_in.calls _ _ _ _ _ Q2.out)) | (with_reducible exact quietD (rec_in.calls _ _ _ _ _ Q3.out)) | (with_reducible exact quietD (rec_in.calls _ _ _ _ _ Q4.out))))
  go_wp2
  go_ret
  exact ⟨rfl, FIN.out _⟩
 rw [if_pos rfl] at h
 by_cases h4 : a0_4 = 0
 ·subst h4
  rw [if_pos rfl] at h
  obtain rfl := Option.some.inj h
  clear h
  go_quiet ((go_at_call 62; first | (with_reducible exact quietD (rec_in.calls _ _ _ _ _ Q1.out)) | (with_reducible exact quietD (rec_in.calls _ _ _ _ _ Q2.out)) | (with_reducible exact quietD (rec_in.calls _ _ _ _ _ Q3.out)) | (with_reducible exact quietD (rec_in.calls _ _ _ _ _ Q4.out))))
  go_wp2
  go_ret
  exact ⟨rfl, FIN.out _⟩
 rw [if_neg h4] at h
 obtain ⟨t5, q5, h⟩ := Option.bind_eq_some_iff.1 h
 have Q5 := Aside0.mk q5; clear q5
 obtain rfl := Option.some.inj h
 clear h
 go_quiet (first | (go_at_call 72; exact quietD (sum_Roll.calls _ _ _ _ _ Q5.out)) | (go_at_call 62; first | (with_reducible exact quietD (rec_in.calls _ _ _ _ _ Q1.out)) | (with_reducible exact quietD (rec_in.calls _ _ _ _ _ Q2.out)) | (with_reducible exact quietD (rec_in.calls _ _ _ _ _ Q3.out)) | (with_reducible exact quietD (rec_in.calls _ _ _ _ _ Q4.out))))
 go_wp2
 go_ret
 exact ⟨by first | rfl | (simp [h4]; done), FIN.out _⟩
def rec_Make.f (k : Nat) (a0 : Int) (a1 : Int) (a2 : Int) (a3 : ByteArray) : Option (Int × Int × Int × Int × Int × Bool) := (sum_Of.f k a3).bind fun t177 => ((rec_Head_may.f k a0 a1 a2 (a3.size : Int) t177).bind fun t179 => (if t179 = true then (some (a0, a1, a2, (a3.size : Int), t177, true)) else (some (0, 0, 0, 0, 0, false))))
theorem rec_Make.mono : ∀ a0 a1 a2 a3 k, LeO (rec_Make.f k a0 a1 a2 a3) (rec_Make.f (k + 1) a0 a1 a2 a3) := by
 intro a0 a1 a2 a3 k
 unfold rec_Make.f
 repeat' first
   | (with_reducible exact rec_Head_may.mono _ _ _ _ _ _)
   | (with_reducible exact sum_Of.mono _ _)
   | (with_reducible exact LeO.refl _)
   | (with_reducible exact LeO.none _)
   | (with_reducible refine LeO.ite ?_ ?_)
   | (with_reducible refine LeO.bind ?_ (fun _ => ?_))
   | exact rec_Head_may.mono _ _ _ _ _ _
   | exact sum_Of.mono _ _
   | exact LeO.none _
   | refine LeO.ite ?_ ?_
   | refine LeO.bind ?_ (fun _ => ?_)
set_option maxHeartbeats 8000000 in
set_option maxRecDepth 100000 in
theorem rec_Make.calls (k : Nat) (a0 : Int) (a1 : Int) (a2 : Int) (a3 : ByteArray) (r1 : Int) (r2 : Int) (r3 : Int) (r4 : Int) (r5 : Int) (r6 : Bool) (w : World) (h : rec_Make.f k a0 a1 a2 a3 = some (r1, r2, r3, r4, r5, r6)) :
  Calls Try.prog 34 #[.int .i64 a0, .int .i64 a1, .int .i64 a2, .string a3] w fun e w' => e = .returned (.tuple #[.agg #[.int .i64 r1, .int .i64 r2, .int .i64 r3, .int .i64 r4, .int .i64 r5], .bool r6]) ∧ Below w.heap.size w w' := by
 have hu73 := Try.underlying73
 have HB := Aside0.mk (Below.refl w.heap.size w)
 have H := h
 unfold rec_Make.f at H
 clear h
 replace H := Option.bind_eq_some_iff.mp H
 obtain ⟨t177, A50, H⟩ := H
 try dsimp only at H
 have A5 := Aside0.mk A50
 clear A50
 replace H := Option.bind_eq_some_iff.mp H
 obtain ⟨t179, A60, H⟩ := H
 try dsimp only at H
 have A6 := Aside0.mk A60
 clear A60
 by_cases c7 : t179 = true
 ·subst c7
  rw [if_pos rfl] at H
  simp only [Option.some.injEq, Prod.mk.injEq] at H
  obtain ⟨rfl, rfl, rfl, rfl, rfl, rfl⟩ := H
  go_enter Try.func34, Try.ntmps34
  go_wp2_with (first | ((with_reducible refine gate_dst (N := 8) rfl ?_); refine bE (N := 8) (cs := #[.int .i64 0, .int .i64 0, .int .i64 0, .int .i64 0, .int .i64 0]) (t := 73) ?_; intro gb176 hg w8 hbox hb; have n0_ := wH hb; have n1_ := Aside0.mk (hbox); have n2_ := Aside0.mk ((qG hg)); have n3_ := Aside0.mk ((qG hg)); clear HB; have HB := n0_; have BK176 := n1_; have GE176 := n3_; clear n0_ n1_ n2_ n3_; clear hb hbox hg) | ((with_reducible refine gate_callee (f := 54) rfl ?_); refine gL (some 17) Try.func54 #[.string a3] ?_; (with_reducible refine (sum_Of.calls k a3 t177 _ A5.out).mono ?_); rintro e w' ⟨rfl, ⟨nd, rfl⟩⟩; refine ⟨_, rfl, ?_⟩; (try (rw [drewN_self w8]; generalize hq_ : World.drewN w8 _ = w8; have n0_ : Aside0 (w8.heap[gb176]? = some (.cells #[.int .i64 0, .int .i64 0, .int .i64 0, .int .i64 0, .int .i64 0] 73 (0, 0))) := ⟨by rw [← hq_]; exact (qB BK176)⟩; have n1_ : Aside0 (Below w.heap.size w w8) := ⟨by rw [← hq_]; exact qH⟩; clear BK176 HB hq_; have BK176 := n0_; have HB := n1_; clear n0_ n1_))) | (go_at_call 54; (with_reducible refine (sum_Of.calls k a3 t177 _ A5.out).mono ?_); rintro e w' ⟨rfl, ⟨nd, rfl⟩⟩) | ((with_reducible refine gate_dst (N := 10) rfl ?_); refine bE (N := 10) (cs := #[.int .i64 0, .int .i64 0, .int .i64 0, .int .i64 0, .int .i64 0]) (t := 73) ?_; intro gb178 hg w9 hbox hb; have n0_ := wB BK176 hb; have n1_ := wH hb; have n2_ := Aside0.mk (hbox); have n3_ := Aside0.mk ((qG hg)); have n4_ := Aside0.mk ((qG hg)); have n5_ := Aside0.mk ((by rw [hg]; exact Nat.ne_of_lt (blk_lt (g := gb176) (o := .cells #[.int .i64 0, .int .i64 0, .int .i64 0, .int .i64 0, .int .i64 0] 73 (0, 0)) (qB BK176)) : gb176 ≠ gb178)); have n6_ := Aside0.mk ((by rw [hg]; exact Nat.ne_of_gt (blk_lt (g := gb176) (o := .cells #[.int .i64 0, .int .i64 0, .int .i64 0, .int .i64 0, .int .i64 0] 73 (0, 0)) (qB BK176)) : gb178 ≠ gb176)); clear BK176; clear HB; have BK176 := n0_; have HB := n1_; have BK178 := n2_; have GE178 := n4_; have NB176_178 := n5_; have NB178_176 := n6_; clear n0_ n1_ n2_ n3_ n4_ n5_ n6_; clear hb hbox hg; obtain ⟨hnb10, hnc10⟩ := nn_ NB178_176; obtain ⟨hcz11_0, hcz11_1, hcz11_2, hcz11_3, hcz11_4, hfz11_0, hfz11_1, hfz11_2, hfz11_3, hfz11_4⟩ := e5_ BK178) | ((with_reducible refine gate_callee (f := 55) rfl ?_); refine gL (some 20) Try.func55 #[.agg #[.int .i64 a0, .int .i64 a1, .int .i64 a2, .int .i64 (a3.size : Int), .int .i64 t177]] ?_; (with_reducible refine (rec_Head_may.calls k a0 a1 a2 (a3.size : Int) t177 true _ A6.out).mono ?_); rintro e w12 ⟨rfl, hb⟩; refine ⟨_, rfl, ?_⟩; have n0_ := wF BK176 hb; have n1_ := wP5 BK178 hb; have n2_ := wH hb; clear BK176; clear BK178; clear HB; have BK176 := n0_; have BK178 := n1_; have HB := n2_; clear n0_ n1_ n2_; (try clear hb); (try clear hb2); (try clear hk); (try clear hi); obtain ⟨hcz13_0, hcz13_1, hcz13_2, hcz13_3, hcz13_4, hfz13_0, hfz13_1, hfz13_2, hfz13_3, hfz13_4⟩ := e5_ BK178; obtain ⟨hcz14_0, hcz14_1, hcz14_2, hcz14_3, hcz14_4, hfz14_0, hfz14_1, hfz14_2, hfz14_3, hfz14_4⟩ := e5_ BK176))
  refine bodyPost_ret (results_ct rfl _ _ gb176 73 #[.int .i64 a0, .int .i64 a1, .int .i64 a2, .int .i64 (a3.size : Int), .int .i64 t177] (0, 0) _ rfl (by (with_reducible repeat (first | apply xN_ | apply xD_ | apply xA_)); refine blk_put (cs := #[.int .i64 a0, .int .i64 a1, .int .i64 a2, .int .i64 (a3.size : Int), .int .i64 0]) ?_ 4 _ rfl; refine blk_put (cs := #[.int .i64 a0, .int .i64 a1, .int .i64 a2, .int .i64 0, .int .i64 0]) ?_ 3 _ rfl; refine blk_put (cs := #[.int .i64 a0, .int .i64 a1, .int .i64 0, .int .i64 0, .int .i64 0]) ?_ 2 _ rfl; refine blk_put (cs := #[.int .i64 a0, .int .i64 0, .int .i64 0, .int .i64 0, .int .i64 0]) ?_ 1 _ rfl; refine blk_put (cs := #[.int .i64 0, .int .i64 0, .int .i64 0, .int .i64 0, .int .i64 0]) ?_ 0 _ rfl; (with_reducible repeat (first | apply xN_ | apply xD_ | apply xA_)); exact BK176.out) Try.underlying73 rfl (by kernel_rfl)) rfl ?_
  exact ⟨eX, qH⟩
 ·replace c7 := Bool.eq_false_iff.mpr c7
  subst c7
  rw [if_neg nF_] at H
  simp only [Option.some.injEq, Prod.mk.injEq] at H
  obtain ⟨rfl, rfl, rfl, rfl, rfl, rfl⟩ := H
  go_enter Try.func34, Try.ntmps34
  go_wp2_with (first | ((with_reducible refine gate_dst (N := 8) rfl ?_); refine bE (N := 8) (cs := #[.int .i64 0, .int .i64 0, .int .i64 0, .int .i64 0, .int .i64 0]) (t := 73) ?_; intro gb176 hg w15 hbox hb; have n0_ := wH hb; have n1_ := Aside0.mk (hbox); have n2_ := Aside0.mk ((qG hg)); have n3_ := Aside0.mk ((qG hg)); clear HB; have HB := n0_; have BK176 := n1_; have GE176 := n3_; clear n0_ n1_ n2_ n3_; clear hb hbox hg) | ((with_reducible refine gate_callee (f := 54) rfl ?_); refine gL (some 17) Try.func54 #[.string a3] ?_; (with_reducible refine (sum_Of.calls k a3 t177 _ A5.out).mono ?_); rintro e w' ⟨rfl, ⟨nd, rfl⟩⟩; refine ⟨_, rfl, ?_⟩; (try (rw [drewN_self w15]; generalize hq_ : World.drewN w15 _ = w15; have n0_ : Aside0 (w15.heap[gb176]? = some (.cells #[.int .i64 0, .int .i64 0, .int .i64 0, .int .i64 0, .int .i64 0] 73 (0, 0))) := ⟨by rw [← hq_]; exact (qB BK176)⟩; have n1_ : Aside0 (Below w.heap.size w w15) := ⟨by rw [← hq_]; exact qH⟩; clear BK176 HB hq_; have BK176 := n0_; have HB := n1_; clear n0_ n1_))) | (go_at_call 54; (with_reducible refine (sum_Of.calls k a3 t177 _ A5.out).mono ?_); rintro e w' ⟨rfl, ⟨nd, rfl⟩⟩) | ((with_reducible refine gate_dst (N := 10) rfl ?_); refine bE (N := 10) (cs := #[.int .i64 0, .int .i64 0, .int .i64 0, .int .i64 0, .int .i64 0]) (t := 73) ?_; intro gb178 hg w16 hbox hb; have n0_ := wB BK176 hb; have n1_ := wH hb; have n2_ := Aside0.mk (hbox); have n3_ := Aside0.mk ((qG hg)); have n4_ := Aside0.mk ((qG hg)); have n5_ := Aside0.mk ((by rw [hg]; exact Nat.ne_of_lt (blk_lt (g := gb176) (o := .cells #[.int .i64 0, .int .i64 0, .int .i64 0, .int .i64 0, .int .i64 0] 73 (0, 0)) (qB BK176)) : gb176 ≠ gb178)); have n6_ := Aside0.mk ((by rw [hg]; exact Nat.ne_of_gt (blk_lt (g := gb176) (o := .cells #[.int .i64 0, .int .i64 0, .int .i64 0, .int .i64 0, .int .i64 0] 73 (0, 0)) (qB BK176)) : gb178 ≠ gb176)); clear BK176; clear HB; have BK176 := n0_; have HB := n1_; have BK178 := n2_; have GE178 := n4_; have NB176_178 := n5_; have NB178_176 := n6_; clear n0_ n1_ n2_ n3_ n4_ n5_ n6_; clear hb hbox hg; obtain ⟨hnb17, hnc17⟩ := nn_ NB178_176; obtain ⟨hcz18_0, hcz18_1, hcz18_2, hcz18_3, hcz18_4, hfz18_0, hfz18_1, hfz18_2, hfz18_3, hfz18_4⟩ := e5_ BK178) | ((with_reducible refine gate_callee (f := 55) rfl ?_); refine gL (some 20) Try.func55 #[.agg #[.int .i64 a0, .int .i64 a1, .int .i64 a2, .int .i64 (a3.size : Int), .int .i64 t177]] ?_; (with_reducible refine (rec_Head_may.calls k a0 a1 a2 (a3.size : Int) t177 false _ A6.out).mono ?_); rintro e w19 ⟨rfl, hb⟩; refine ⟨_, rfl, ?_⟩; have n0_ := wF BK176 hb; have n1_ := wP5 BK178 hb; have n2_ := wH hb; clear BK176; clear BK178; clear HB; have BK176 := n0_; have BK178 := n1_; have HB := n2_; clear n0_ n1_ n2_; (try clear hb); (try clear hb2); (try clear hk); (try clear hi); obtain ⟨hcz20_0, hcz20_1, hcz20_2, hcz20_3, hcz20_4, hfz20_0, hfz20_1, hfz20_2, hfz20_3, hfz20_4⟩ := e5_ BK176))
  refine bodyPost_ret (results_ct rfl _ _ gb176 73 #[.int .i64 0, .int .i64 0, .int .i64 0, .int .i64 0, .int .i64 0] (0, 0) _ rfl (by (with_reducible repeat (first | apply xN_ | apply xD_ | apply xA_)); refine blk_put (cs := #[.int .i64 0, .int .i64 0, .int .i64 0, .int .i64 0, .int .i64 0]) ?_ 4 _ rfl; refine blk_put (cs := #[.int .i64 0, .int .i64 0, .int .i64 0, .int .i64 0, .int .i64 0]) ?_ 3 _ rfl; refine blk_put (cs := #[.int .i64 0, .int .i64 0, .int .i64 0, .int .i64 0, .int .i64 0]) ?_ 2 _ rfl; refine blk_put (cs := #[.int .i64 0, .int .i64 0, .int .i64 0, .int .i64 0, .int .i64 0]) ?_ 1 _ rfl; refine blk_put (cs := #[.int .i64 0, .int .i64 0, .int .i64 0, .int .i64 0, .int .i64 0]) ?_ 0 _ rfl; (with_reducible repeat (first | apply xN_ | apply xD_ | apply xA_)); exact BK176.out) Try.underlying73 rfl (by kernel_rfl)) rfl ?_
  exact ⟨eX, qH⟩
mutual
def armadaref01_Run.l0 : Nat → List (S85) → Int → Int → List ByteArray → List (S29) → List ByteArray → List (S29) → Option (List ByteArray × (List (S29)) × Int)
 | 0, _, _, _, _, _, _, _ => none
 | k + 1, x1, x2, x9, x299000, x299001, x301000, x301001 => if x9 < (x1.length : Int) then (armadaref01_Run.j1 k x1 x2 x9 (decide (x9 < x2)) x299000 x299001 x301000 x301001) else (armadaref01_Run.j1 k x1 x2 x9 false x299000 x299001 x301000 x301001)
def armadaref01_Run.j1 : Nat → List (S85) → Int → Int → Bool → List ByteArray → List (S29) → List ByteArray → List (S29) → Option (List ByteArray × (List (S29)) × Int)
 | 0, _, _, _, _, _, _, _, _ => none
 | k + 1, x1, x2, x9, x28, x299000, x299001, x301000, x301001 => if x28 = true then (if 0 ≤ x9 then (if x9 < (x1.length : Int) then (if (rd_T85 x1 x9).f0 = true then ((armadaref01_Flush.f k x301000 x301001).bind fun bt303 => (if 0 = 0 then (armadaref01_Run.l0 k x1 x2 (wrap64 (x9 + 1)) x299000 x299001 bt303.1 bt303.2.1) else (some (x299000, x299001, 0)))) else ((armadaref01_Put.f k x301000 x301001 ((rd_T85 x1 x9).f1) ((rd_T85 x1 x9).f2)).bind fun bt313 => (if bt313.2.2 = 0 then (armadaref01_Run.l0 k x1 x2 (wrap64 (x9 + 1)) x299000 x299001 bt313.1 bt313.2.1) else (some (x299000, x299001, bt313.2.2))))) else (none)) else (none)) else (some (x301000, x301001, 0))
end
def armadaref01_Run.f (k : Nat) (l0_0 : List ByteArray) (l0_1 : List (S29)) (l1 : List (S85)) (a2 : Int) : Option (List ByteArray × (List (S29)) × Int) := (armadaref01_May.f k l0_0 l0_1).bind fun t301 => (if t301 = true then (armadaref01_Run.l0 k l1 a2 0 l0_0 l0_1 l0_0 l0_1) else (some (l0_0, l0_1, 1)))
theorem armadaref01_Run.mono_l : ∀ k, (∀ y0 y1 y2 y3 y4 y5 y6, LeO (armadaref01_Run.l0 k y0 y1 y2 y3 y4 y5 y6) (armadaref01_Run.l0 (k + 1) y0 y1 y2 y3 y4 y5 y6)) ∧ (∀ y0 y1 y2 y3 y4 y5 y6 y7, LeO (armadaref01_Run.j1 k y0 y1 y2 y3 y4 y5 y6 y7) (armadaref01_Run.j1 (k + 1) y0 y1 y2 y3 y4 y5 y6 y7))
 | 0 => ⟨fun _ _ _ _ _ _ _ r h => by simp [armadaref01_Run.l0] at h, fun _ _ _ _ _ _ _ _ r h => by simp [armadaref01_Run.j1] at h⟩
 | k + 1 => by
  obtain ⟨ih0, ih1⟩ := armadaref01_Run.mono_l k
  refine ⟨?_, ?_⟩
  ·intro y0 y1 y2 y3 y4 y5 y6
   unfold armadaref01_Run.l0
   repeat' first
   | (with_reducible exact ih0 _ _ _ _ _ _ _)
   | (with_reducible exact ih1 _ _ _ _ _ _ _ _)
   | (with_reducible exact armadaref01_Flush.mono _ _ _)
   | (with_reducible exact armadaref01_May.mono _ _ _)
   | (with_reducible exact armadaref01_Put.mono _ _ _ _ _)
   | (with_reducible exact LeO.refl _)
   | (with_reducible exact LeO.none _)
   | (with_reducible refine LeO.ite ?_ ?_)
   | (with_reducible refine LeO.bind ?_ (fun _ => ?_))
   | exact ih0 _ _ _ _ _ _ _
   | exact ih1 _ _ _ _ _ _ _ _
   | exact armadaref01_Flush.mono _ _ _
   | exact armadaref01_May.mono _ _ _
   | exact armadaref01_Put.mono _ _ _ _ _
   | exact LeO.none _
   | refine LeO.ite ?_ ?_
   | refine LeO.bind ?_ (fun _ => ?_)
  ·intro y0 y1 y2 y3 y4 y5 y6 y7
   unfold armadaref01_Run.j1
   repeat' first
   | (with_reducible exact ih0 _ _ _ _ _ _ _)
   | (with_reducible exact ih1 _ _ _ _ _ _ _ _)
   | (with_reducible exact armadaref01_Flush.mono _ _ _)
   | (with_reducible exact armadaref01_May.mono _ _ _)
   | (with_reducible exact armadaref01_Put.mono _ _ _ _ _)
   | (with_reducible exact LeO.refl _)
   | (with_reducible exact LeO.none _)
   | (with_reducible refine LeO.ite ?_ ?_)
   | (with_reducible refine LeO.bind ?_ (fun _ => ?_))
   | exact ih0 _ _ _ _ _ _ _
   | exact ih1 _ _ _ _ _ _ _ _
   | exact armadaref01_Flush.mono _ _ _
   | exact armadaref01_May.mono _ _ _
   | exact armadaref01_Put.mono _ _ _ _ _
   | exact LeO.none _
   | refine LeO.ite ?_ ?_
   | refine LeO.bind ?_ (fun _ => ?_)
theorem armadaref01_Run.mono : ∀ a0 a1 a2 a3 k, LeO (armadaref01_Run.f k a0 a1 a2 a3) (armadaref01_Run.f (k + 1) a0 a1 a2 a3) := by
 intro a0 a1 a2 a3 k
 obtain ⟨ih0, ih1⟩ := armadaref01_Run.mono_l k
 unfold armadaref01_Run.f
 repeat' first
   | (with_reducible exact ih0 _ _ _ _ _ _ _)
   | (with_reducible exact ih1 _ _ _ _ _ _ _ _)
   | (with_reducible exact armadaref01_Flush.mono _ _ _)
   | (with_reducible exact armadaref01_May.mono _ _ _)
   | (with_reducible exact armadaref01_Put.mono _ _ _ _ _)
   | (with_reducible exact LeO.refl _)
   | (with_reducible exact LeO.none _)
   | (with_reducible refine LeO.ite ?_ ?_)
   | (with_reducible refine LeO.bind ?_ (fun _ => ?_))
   | exact ih0 _ _ _ _ _ _ _
   | exact ih1 _ _ _ _ _ _ _ _
   | exact armadaref01_Flush.mono _ _ _
   | exact armadaref01_May.mono _ _ _
   | exact armadaref01_Put.mono _ _ _ _ _
   | exact LeO.none _
   | refine LeO.ite ?_ ?_
   | refine LeO.bind ?_ (fun _ => ?_)
def armadaref01_Run.T11 : Bool × List (List Nat × List Nat) := (true, [([], []), ([], []), ([], []), ([1, 2], [1, 2]), ([3], [3]), ([4], [4]), ([], []), ([], []), ([6, 7], [6, 7]), ([8], [8]), ([9], [9]), ([0, 5, 10], [0, 5, 10]), ([11], [11]), ([12], [12]), ([12], [12]), ([], []), ([15, 13, 11, 0, 1, 2, 3, 4, 5, 6, 7, 8, 9, 10, 11, 12, 13, 15], [13, 15]), ([14, 16, 0, 1, 2, 3, 4, 5, 6, 7, 8, 9, 10, 11, 12, 13, 14, 15, 16], [14])])
def armadaref01_Run.B11 : List Nat := [0, 0, 0, 6, 14, 30, 0, 0, 192, 448, 960, 2047, 4095, 8191, 8191, 0, 49151, 131071]
theorem armadaref01_Run.tab11 : rtab .any (opsOf Try.f26 11) = armadaref01_Run.T11 := by kernel_rfl
theorem armadaref01_Run.bits11 : waitsOk armadaref01_Run.T11.2 armadaref01_Run.B11 = true := by kernel_rfl
set_option maxHeartbeats 8000000 in
set_option maxRecDepth 100000 in
theorem armadaref01_Run.calls (k : Nat) (P0_0_ : Nat → Prop) (A0_0 : Option Addr) (c0_0 : Nat) (l0_0 : List ByteArray) (P0_1_ : Nat → Prop) (A0_1 : Option Addr) (c0_1 : Nat) (l0_1 : List (S29)) (A1 : Option Addr) (c1 : Nat) (l1 : List (S85)) (a2 : Int) (r1 : List ByteArray) (r2 : List (S29)) (r3 : Int) (w : World) (hs0_0 : Kd.V Kd.string 9 w w.heap.size (fun k_ => P0_0_ k_) (.slice A0_0 l0_0.length c0_0) l0_0) (hs0_1 : Kd.V k29 29 w w.heap.size (fun k_ => P0_1_ k_) (.slice A0_1 l0_1.length c0_1) l0_1) (hr1 : Kd.C k85 w A1 l1.length l1) (hc1 : l1.length ≤ c1) (h : armadaref01_Run.f k l0_0 l0_1 l1 a2 = some (r1, r2, r3)) :
  Calls Try.prog 26 #[.agg #[.slice A0_0 l0_0.length c0_0, .slice A0_1 l0_1.length c0_1], .slice A1 l1.length c1, .int .i64 a2] w fun e w' => ∃ v0_ v1_ : Value, e = .returned (.tuple #[.agg #[v0_, v1_], .int .i64 r3]) ∧ Kd.V Kd.string 9 w' w.heap.size (fun k_ => ((P0_0_ k_ ∨ P0_1_ k_) ∨ w.heap.size ≤ k_)) v0_ r1 ∧ Kd.V k29 29 w' w.heap.size (fun k_ => ((P0_0_ k_ ∨ P0_1_ k_) ∨ w.heap.size ≤ k_)) v1_ r2 ∧ Below w.heap.size w w' := by
 have hu25 := Try.underlying25
 have HO0_0 := Aside0.mk (show Kd.V Kd.string 9 w w.heap.size (fun k_ => ((P0_0_ k_ ∨ P0_1_ k_) ∨ w.heap.size ≤ k_)) (.slice A0_0 l0_0.length c0_0) l0_0 from Kd.V_mono hs0_0 (fun k_ hk => .inl (.inl hk)))
 have HO0_1 := Aside0.mk (show Kd.V k29 29 w w.heap.size (fun k_ => ((P0_0_ k_ ∨ P0_1_ k_) ∨ w.heap.size ≤ k_)) (.slice A0_1 l0_1.length c0_1) l0_1 from Kd.V_mono hs0_1 (fun k_ hk => .inl (.inr hk)))
 have HR1 := Aside0.mk hr1
 have HC1 := Aside0.mk hc1
 clear hr1 hc1
 have HB := Aside0.mk (Below.refl w.heap.size w)
 have H := h
 unfold armadaref01_Run.f at H
 clear h
 replace H := Option.bind_eq_some_iff.mp H
 obtain ⟨t301, A40, H⟩ := H
 try dsimp only at H
 have A4 := Aside0.mk A40
 clear A40
 by_cases c5 : t301 = true
 ·subst c5
  rw [if_pos rfl] at H
  have H' := Aside0.mk H
  clear H
  go_enter Try.func26, Try.ntmps26
  go_wp2_with (first | ((with_reducible refine gate_dst (N := 3) rfl ?_); refine bE (N := 3) (cs := #[.slice A0_0 l0_0.length c0_0, .slice A0_1 l0_1.length c0_1]) (t := 25) ?_; intro gb298 hg w6 hbox hb; have hz_ := zqA HB hb; replace hb := below_step hz_ hb; replace HO0_0 := zE HO0_0 hz_ hg hb; replace HO0_1 := zE HO0_1 hz_ hg hb; have BK298 := Aside0.mk hbox; have GE298 := zG HB hz_ hg; replace HB := zH HB hb; clear hz_; clear hb hbox hg) | ((with_reducible refine gate_dst (N := 6) rfl ?_); refine bE (N := 6) (cs := #[.slice none 0 0, .slice none 0 0]) (t := 25) ?_; intro gb299 hg w7 hbox hb; have hz_ := zqA HB hb; replace hb := below_step hz_ hb; replace HO0_0 := zE HO0_0 hz_ hg hb; replace HO0_1 := zE HO0_1 hz_ hg hb; have BK299 := Aside0.mk hbox; have GE299 := zG HB hz_ hg; have NB298_299 := zN BK298 hz_ hg; have NB299_298 := zM BK298 hz_ hg; replace BK298 := zB BK298 hb; replace HB := zH HB hb; clear hz_; clear hb hbox hg; obtain ⟨hnb8, hnc8⟩ := nn_ NB298_299; obtain ⟨hcz9_0, hcz9_1, hfz9_0, hfz9_1⟩ := e2_ BK298) | ((with_reducible refine gate_dst (N := 8) rfl ?_); refine bE (N := 8) (cs := #[.slice none 0 0, .slice none 0 0]) (t := 25) ?_; intro gb300 hg w10 hbox hb; have hz_ := zqA HB hb; replace hb := below_step hz_ hb; replace HO0_0 := zE HO0_0 hz_ hg hb; replace HO0_1 := zE HO0_1 hz_ hg hb; have BK300 := Aside0.mk hbox; have GE300 := zG HB hz_ hg; have NB298_300 := zN BK298 hz_ hg; have NB300_298 := zM BK298 hz_ hg; have NB299_300 := zN BK299 hz_ hg; have NB300_299 := zM BK299 hz_ hg; replace BK298 := zB BK298 hb; replace BK299 := zB BK299 hb; replace HB := zH HB hb; clear hz_; clear hb hbox hg; obtain ⟨hnb11, hnc11⟩ := nn_ NB300_298; obtain ⟨hnb12, hnc12⟩ := nn_ NB300_299; obtain ⟨hcz13_0, hcz13_1, hfz13_0, hfz13_1⟩ := e2_ BK300; obtain ⟨hcz14_0, hcz14_1, hfz14_0, hfz14_1⟩ := e2_ BK298) | ((with_reducible refine gate_callee (f := 25) rfl ?_); refine gL (some 17) Try.func25 #[.agg #[.slice A0_0 l0_0.length c0_0, .slice A0_1 l0_1.length c0_1]] ?_; (with_reducible refine (armadaref01_May.calls k _ _ l0_0 _ _ l0_1 true _ ?side1 ?side2 ?side3 ?side4 A4.out).mono ?_); (case side1 => refine (Kd.V_reads' (e := 9) (base := w.heap.size) (ok := fun k_ => (((((P0_0_ k_ ∨ P0_1_ k_) ∨ w.heap.size ≤ k_) ∧ k_ ≠ gb298) ∧ k_ ≠ gb299) ∧ k_ ≠ gb300)) (n := l0_0.length) (c := c0_0) ?_).2.2; exact (qV (vF2 HO0_0.out (fun _ hk => hk.2)))); (case side2 => exact (Kd.V_reads' HO0_0.out).2.1); (case side3 => refine (Kd.V_reads' (e := 29) (base := w.heap.size) (ok := fun k_ => (((((P0_0_ k_ ∨ P0_1_ k_) ∨ w.heap.size ≤ k_) ∧ k_ ≠ gb298) ∧ k_ ≠ gb299) ∧ k_ ≠ gb300)) (n := l0_1.length) (c := c0_1) ?_).2.2; exact (qV (vF2 HO0_1.out (fun _ hk => hk.2)))); (case side4 => exact (Kd.V_reads' HO0_1.out).2.1); rintro e w15 ⟨rfl, hb⟩; refine ⟨_, rfl, ?_⟩; have hz_ := zq2 HB gb300 (.slice A0_0 l0_0.length c0_0) (.slice A0_1 l0_1.length c0_1) (by repeat (first | (with_reducible first | exact Below.refl _ _ | apply yA_ | apply yN_ | apply yD_) | exact Below.refl _ _)) hb; replace hb := below_step hz_ hb; replace HO0_0 := zF HO0_0 (fun _ hk => hk.2) hb; replace HO0_1 := zF HO0_1 (fun _ hk => hk.2) hb; replace BK298 := zBF BK298 NB298_300 hb; replace BK299 := zBF BK299 NB299_300 hb; replace BK300 := zBP BK300 hb; replace HB := zHF HB GE300 hb; clear hz_; (try clear hb)))
  go_loopg [9] k (fun kq v9 w' => ∃ (x9_1 : Int) (x301000_1 : List ByteArray) (x301001_1 : List (S29)) (u301000 : Value) (u301001 : Value), v9 = .int .i64 x9_1 ∧ Aside0 (armadaref01_Run.l0 kq l1 a2 x9_1 l0_0 l0_1 x301000_1 x301001_1 = some (r1, r2, r3)) ∧ Aside0 (kq ≤ k) ∧ Aside0 (Kd.V Kd.string 9 w' w.heap.size (fun k_ => ((P0_0_ k_ ∨ P0_1_ k_) ∨ w.heap.size ≤ k_) ∧ k_ ≠ gb298 ∧ k_ ≠ gb299 ∧ k_ ≠ gb300) (.slice A0_0 l0_0.length c0_0) l0_0) ∧ Aside0 (Kd.V k29 29 w' w.heap.size (fun k_ => ((P0_0_ k_ ∨ P0_1_ k_) ∨ w.heap.size ≤ k_) ∧ k_ ≠ gb298 ∧ k_ ≠ gb299 ∧ k_ ≠ gb300) (.slice A0_1 l0_1.length c0_1) l0_1) ∧ Aside0 (Kd.V Kd.string 9 w' w.heap.size (fun k_ => ((P0_0_ k_ ∨ P0_1_ k_) ∨ w.heap.size ≤ k_) ∧ k_ ≠ gb298 ∧ k_ ≠ gb299 ∧ k_ ≠ gb300) u301000 x301000_1) ∧ Aside0 (Kd.V k29 29 w' w.heap.size (fun k_ => ((P0_0_ k_ ∨ P0_1_ k_) ∨ w.heap.size ≤ k_) ∧ k_ ≠ gb298 ∧ k_ ≠ gb299 ∧ k_ ≠ gb300) u301001 x301001_1) ∧ Aside0 (w'.heap[gb298]? = some (.cells #[(.slice A0_0 l0_0.length c0_0), (.slice A0_1 l0_1.length c0_1)] 25 (0, 0))) ∧ Aside0 (w'.heap[gb299]? = some (.cells #[(.slice none 0 0), (.slice none 0 0)] 25 (0, 0))) ∧ Aside0 (w'.heap[gb300]? = some (.cells #[u301000, u301001] 25 (0, 0))) ∧ Aside0 (Below w.heap.size w w'))
  case atStart => exact ⟨(0), (l0_0), (l0_1), (.slice A0_0 l0_0.length c0_0), (.slice A0_1 l0_1.length c0_1), eY, H', ⟨Nat.le_refl _⟩, ⟨by (with_reducible repeat (first | apply Kd.V_alloc | apply Kd.V_drewN | apply Kd.V_drew)); exact Kd.V_mono HO0_0.out (fun _ hk => ⟨hk.1.1.1, ⟨hk.1.1.2, ⟨hk.1.2, hk.2⟩⟩⟩)⟩, ⟨by (with_reducible repeat (first | apply Kd.V_alloc | apply Kd.V_drewN | apply Kd.V_drew)); exact Kd.V_mono HO0_1.out (fun _ hk => ⟨hk.1.1.1, ⟨hk.1.1.2, ⟨hk.1.2, hk.2⟩⟩⟩)⟩, ⟨by (with_reducible repeat (first | apply Kd.V_alloc | apply Kd.V_drewN | apply Kd.V_drew)); exact Kd.V_mono HO0_0.out (fun _ hk => ⟨hk.1.1.1, ⟨hk.1.1.2, ⟨hk.1.2, hk.2⟩⟩⟩)⟩, ⟨by (with_reducible repeat (first | apply Kd.V_alloc | apply Kd.V_drewN | apply Kd.V_drew)); exact Kd.V_mono HO0_1.out (fun _ hk => ⟨hk.1.1.1, ⟨hk.1.1.2, ⟨hk.1.2, hk.2⟩⟩⟩)⟩, ⟨qB BK298⟩, ⟨qB BK299⟩, ⟨qB BK300⟩, ⟨qH⟩⟩
  case round =>
   clear H'
   (try clear p2); (try clear c5); (try clear hcz13_0); (try clear hcz13_1); (try clear hcz14_0); (try clear hcz14_1); (try clear hcz9_0); (try clear hcz9_1); (try clear hfz13_0)
   (try clear hfz13_1); (try clear hfz14_0); (try clear hfz14_1); (try clear hfz9_0); (try clear hfz9_1)
   obtain ⟨x9_1, x301000_1, x301001_1, u301000, u301001, rfl, HA, HK1, HO_299000, HO_299001, HO_301000, HO_301001, BK298, BK299, BK300, HB⟩ := hrel
   cases gk with
   | zero => exact absurd HA.out (by simp [armadaref01_Run.l0])
   | succ k1 =>
    have H := HA.out
    clear HA
    simp only [armadaref01_Run.l0] at H
    have HC16 := Aside0.mk H
    clear H
    go_upto_region 5 with (fail)
    go_cut [28] (fun v28 wc => ∃ (kq : Nat) (x28_15 : Bool), v28 = .bool x28_15 ∧ Aside0 (armadaref01_Run.j1 kq l1 a2 x9_1 x28_15 l0_0 l0_1 x301000_1 x301001_1 = some (r1, r2, r3)) ∧ Aside0 (kq ≤ k1) ∧ Aside0 (Kd.V Kd.string 9 wc w.heap.size (fun k_ => ((P0_0_ k_ ∨ P0_1_ k_) ∨ w.heap.size ≤ k_) ∧ k_ ≠ gb298 ∧ k_ ≠ gb299 ∧ k_ ≠ gb300) (.slice A0_0 l0_0.length c0_0) l0_0) ∧ Aside0 (Kd.V k29 29 wc w.heap.size (fun k_ => ((P0_0_ k_ ∨ P0_1_ k_) ∨ w.heap.size ≤ k_) ∧ k_ ≠ gb298 ∧ k_ ≠ gb299 ∧ k_ ≠ gb300) (.slice A0_1 l0_1.length c0_1) l0_1) ∧ Aside0 (Kd.V Kd.string 9 wc w.heap.size (fun k_ => ((P0_0_ k_ ∨ P0_1_ k_) ∨ w.heap.size ≤ k_) ∧ k_ ≠ gb298 ∧ k_ ≠ gb299 ∧ k_ ≠ gb300) u301000 x301000_1) ∧ Aside0 (Kd.V k29 29 wc w.heap.size (fun k_ => ((P0_0_ k_ ∨ P0_1_ k_) ∨ w.heap.size ≤ k_) ∧ k_ ≠ gb298 ∧ k_ ≠ gb299 ∧ k_ ≠ gb300) u301001 x301001_1) ∧ Aside0 (wc.heap[gb298]? = some (.cells #[(.slice A0_0 l0_0.length c0_0), (.slice A0_1 l0_1.length c0_1)] 25 (0, 0))) ∧ Aside0 (wc.heap[gb299]? = some (.cells #[(.slice none 0 0), (.slice none 0 0)] 25 (0, 0))) ∧ Aside0 (wc.heap[gb300]? = some (.cells #[u301000, u301001] 25 (0, 0))) ∧ Aside0 (Below w.heap.size w wc))
    case first =>
     have H := HC16.out
     clear HC16
     by_cases c17 : x9_1 < (l1.length : Int)
     ·rw [if_pos c17] at H
      have c17b0 : decide (x9_1 < (l1.length : Int)) = true := decide_eq_true c17
      clear c17
      (first | rw [c17b0] | (simp only [i64_w, i32_w]; rw [c17b0]) | skip)
      have H' := Aside0.mk H
      clear H
      go_wp2
      go_meet
      case rel => exact ⟨_, (decide (x9_1 < a2)), eY, H', ⟨by have := HK1.out; first | omega | exact Nat.le_refl _⟩, ⟨qV HO_299000.out⟩, ⟨qV HO_299001.out⟩, ⟨qV HO_301000.out⟩, ⟨qV HO_301001.out⟩, ⟨qB BK298⟩, ⟨qB BK299⟩, ⟨qB BK300⟩, ⟨qH⟩⟩
     ·rw [if_neg c17] at H
      have c17b0 : decide (x9_1 < (l1.length : Int)) = false := decide_eq_false c17
      clear c17
      (first | rw [c17b0] | (simp only [i64_w, i32_w]; rw [c17b0]) | skip)
      have H' := Aside0.mk H
      clear H
      go_wp2
      go_meet
      case rel => exact ⟨_, (false), eY, H', ⟨by have := HK1.out; first | omega | exact Nat.le_refl _⟩, ⟨qV HO_299000.out⟩, ⟨qV HO_299001.out⟩, ⟨qV HO_301000.out⟩, ⟨qV HO_301001.out⟩, ⟨qB BK298⟩, ⟨qB BK299⟩, ⟨qB BK300⟩, ⟨qH⟩⟩
    case rest =>
     clear HC16
     (try clear p2); (try clear p2)
     obtain ⟨kq, x28_15, rfl, HA, HJ15, HO_299000, HO_299001, HO_301000, HO_301001, BK298, BK299, BK300, HB⟩ := hcut
     cases kq with
     | zero => exact absurd HA.out (by simp [armadaref01_Run.j1])
     | succ kj15 =>
      have H := HA.out
      clear HA
      simp only [armadaref01_Run.j1] at H
      by_cases c18 : x28_15 = true
      ·subst c18
       rw [if_pos rfl] at H
       by_cases c19 : 0 ≤ x9_1
       ·rw [if_pos c19] at H
        have c19b0 : decide (0 ≤ x9_1) = true := decide_eq_true c19
        clear c19
        by_cases c20 : x9_1 < (l1.length : Int)
        ·rw [if_pos c20] at H
         have c20b0 : decide (x9_1 < (l1.length : Int)) = true := decide_eq_true c20
         clear c20
         obtain ⟨bq21, hbq21⟩ : ∃ b_ : Bool, b_ = ((rd_T85 l1 x9_1).f0) := ⟨_, rfl⟩
         replace H : (if bq21 = true then ((armadaref01_Flush.f kj15 x301000_1 x301001_1).bind fun bt303 => (if 0 = 0 then (armadaref01_Run.l0 kj15 l1 a2 (wrap64 (x9_1 + 1)) l0_0 l0_1 bt303.1 bt303.2.1) else (some (l0_0, l0_1, 0)))) else ((armadaref01_Put.f kj15 x301000_1 x301001_1 ((rd_T85 l1 x9_1).f1) ((rd_T85 l1 x9_1).f2)).bind fun bt313 => (if bt313.2.2 = 0 then (armadaref01_Run.l0 kj15 l1 a2 (wrap64 (x9_1 + 1)) l0_0 l0_1 bt313.1 bt313.2.1) else (some (l0_0, l0_1, bt313.2.2))))) = some (r1, r2, r3) := by rw [← hbq21] at H; exact H
         have Nbq21 := Aside0.mk hbq21
         clear hbq21
         by_cases c22 : bq21 = true
         ·subst c22
          rw [if_pos rfl] at H
          replace H := Option.bind_eq_some_iff.mp H
          obtain ⟨⟨t303, t306, t309⟩, A230, H⟩ := H
          try dsimp only at H
          have A23 := Aside0.mk A230
          clear A230
          by_cases c24 : 0 = 0
          ·rw [if_pos c24] at H
           have c24b0 : (0 == 0) = true := beq_iff_eq.mpr c24
           have c24b1 : (0 != 0) = false := bne_eq_false_iff_eq.mpr c24
           clear c24
           have H' := Aside0.mk H
           clear H
           have p302 : 0 ≤ (x9_1 : Int) := of_decide_eq_true aS
           have q302 : x9_1 < (l1.length : Int) := of_decide_eq_true aS
           obtain ⟨ad302, e302, hx302_0, hx302_1, hx302_2⟩ := at_T85 HR1.out x9_1 p302 q302
           (try rw [← Nbq21.out] at hx302_0)
           cases e302
           replace hx302_0 := (HB.out.cell (World.block_lt_of_cell? w _ hx302_0)).trans hx302_0
           replace hx302_1 := (HB.out.cell (World.block_lt_of_cell? w _ hx302_1)).trans hx302_1
           replace hx302_2 := (HB.out.cell (World.block_lt_of_cell? w _ hx302_2)).trans hx302_2
           replace p302 := eq_true p302
           replace q302 := eq_true q302
           obtain ⟨hnb25, hnc25⟩ := nn_ NB300_298
           obtain ⟨hnb26, hnc26⟩ := nn_ NB300_299
           obtain ⟨hcz27_0, hcz27_1, hfz27_0, hfz27_1⟩ := e2_ BK300
           obtain ⟨Ao28, co28, eo28⟩ := Kd.V_slice HO_301000.out
           subst eo28
           obtain ⟨Ao29, co29, eo29⟩ := Kd.V_slice HO_301001.out
           subst eo29
           go_wp2_with (first | ((with_reducible refine gate_callee (f := 49) rfl ?_); refine gL (some 38) Try.func49 #[.agg #[.slice Ao28 x301000_1.length co28, .slice Ao29 x301001_1.length co29]] ?_; (with_reducible refine (armadaref01_Flush.calls kj15 (fun k_ => (((P0_0_ k_ ∨ P0_1_ k_) ∨ w.heap.size ≤ k_) ∧ (k_ ≠ gb298 ∧ (k_ ≠ gb299 ∧ k_ ≠ gb300)))) _ _ x301000_1 (fun k_ => (((P0_0_ k_ ∨ P0_1_ k_) ∨ w.heap.size ≤ k_) ∧ (k_ ≠ gb298 ∧ (k_ ≠ gb299 ∧ k_ ≠ gb300)))) _ _ x301001_1 t303 t306 t309 _ ?side1 ?side2 A23.out).mono ?_); (case side1 => exact HO_301000.out); (case side2 => exact HO_301001.out); rintro e w30 ⟨v304, v307, rfl, ho0, ho1, hb⟩; refine ⟨_, rfl, ?_⟩; have hz_ := zqA HB hb; replace hb := below_step hz_ hb; replace HO_299000 := zV HO_299000 hb; replace HO_299001 := zV HO_299001 hb; replace HO_301000 := zV HO_301000 hb; replace HO_301001 := zV HO_301001 hb; have HO305 := Aside0.mk (Kd.V_lower (Kd.V_mono (ok' := fun k_ => ((P0_0_ k_ ∨ P0_1_ k_) ∨ w.heap.size ≤ k_) ∧ k_ ≠ gb298 ∧ k_ ≠ gb299 ∧ k_ ≠ gb300) ho0 (fun k_ hk_ => ⟨Or.elim hk_ (fun hs_ => Or.elim hs_ (fun hs_ => hs_.1) (fun hs_ => hs_.1)) (fun hn_ => (.inr (Nat.le_trans (zs HB hz_) hn_))), Or.elim hk_ (fun hs_ => Or.elim hs_ (fun hs_ => hs_.2.1) (fun hs_ => hs_.2.1)) (zf BK298 hz_ k_), Or.elim hk_ (fun hs_ => Or.elim hs_ (fun hs_ => hs_.2.2.1) (fun hs_ => hs_.2.2.1)) (zf BK299 hz_ k_), Or.elim hk_ (fun hs_ => Or.elim hs_ (fun hs_ => hs_.2.2.2) (fun hs_ => hs_.2.2.2)) (zf BK300 hz_ k_)⟩)) (zs HB hz_)); have HO308 := Aside0.mk (Kd.V_lower (Kd.V_mono (ok' := fun k_ => ((P0_0_ k_ ∨ P0_1_ k_) ∨ w.heap.size ≤ k_) ∧ k_ ≠ gb298 ∧ k_ ≠ gb299 ∧ k_ ≠ gb300) ho1 (fun k_ hk_ => ⟨Or.elim hk_ (fun hs_ => Or.elim hs_ (fun hs_ => hs_.1) (fun hs_ => hs_.1)) (fun hn_ => (.inr (Nat.le_trans (zs HB hz_) hn_))), Or.elim hk_ (fun hs_ => Or.elim hs_ (fun hs_ => hs_.2.1) (fun hs_ => hs_.2.1)) (zf BK298 hz_ k_), Or.elim hk_ (fun hs_ => Or.elim hs_ (fun hs_ => hs_.2.2.1) (fun hs_ => hs_.2.2.1)) (zf BK299 hz_ k_), Or.elim hk_ (fun hs_ => Or.elim hs_ (fun hs_ => hs_.2.2.2) (fun hs_ => hs_.2.2.2)) (zf BK300 hz_ k_)⟩)) (zs HB hz_)); replace BK298 := zB BK298 hb; replace BK299 := zB BK299 hb; replace BK300 := zB BK300 hb; replace HB := zH HB hb; clear hz_; (try clear hb); (try clear ho0); (try clear ho1)) | ((with_reducible refine gate_dst (N := 11) rfl ?_); refine bE (N := 11) (cs := #[.slice none 0 0, .slice none 0 0]) (t := 25) ?_; intro gb310 hg w31 hbox hb; have hz_ := zqA HB hb; replace hb := below_step hz_ hb; replace HO_299000 := zE HO_299000 hz_ hg hb; replace HO_299001 := zE HO_299001 hz_ hg hb; replace HO_301000 := zE HO_301000 hz_ hg hb; replace HO_301001 := zE HO_301001 hz_ hg hb; replace HO305 := zE HO305 hz_ hg hb; replace HO308 := zE HO308 hz_ hg hb; have BK310 := Aside0.mk hbox; have GE310 := zG HB hz_ hg; have NB298_310 := zN BK298 hz_ hg; have NB310_298 := zM BK298 hz_ hg; have NB299_310 := zN BK299 hz_ hg; have NB310_299 := zM BK299 hz_ hg; have NB300_310 := zN BK300 hz_ hg; have NB310_300 := zM BK300 hz_ hg; replace BK298 := zB BK298 hb; replace BK299 := zB BK299 hb; replace BK300 := zB BK300 hb; replace HB := zH HB hb; clear hz_; clear hb hbox hg; obtain ⟨Ao32, co32, eo32⟩ := Kd.V_slice HO305.out; subst eo32; obtain ⟨hnb33, hnc33⟩ := nn_ NB310_298; obtain ⟨hnb34, hnc34⟩ := nn_ NB310_299; obtain ⟨hnb35, hnc35⟩ := nn_ NB310_300; obtain ⟨hcz36_0, hcz36_1, hfz36_0, hfz36_1⟩ := e2_ BK310; obtain ⟨Ao37, co37, eo37⟩ := Kd.V_slice HO308.out; subst eo37; obtain ⟨hcz38_0, hcz38_1, hfz38_0, hfz38_1⟩ := e2_ BK300))
           go_roundg kj15
           case measure => have := HK1.out; have := HJ15.out; omega
           case rel => exact ⟨(wrap64 (x9_1 + 1)), (t303), (t306), (.slice Ao32 t303.length co32), (.slice Ao37 t306.length co37), eY, H', ⟨by have := HK1.out; have := HJ15.out; omega⟩, ⟨by (with_reducible repeat (first | apply Kd.V_alloc | apply Kd.V_drewN | apply Kd.V_drew)); exact Kd.V_mono (Kd.V_far (p := ⟨gb300, 1, none⟩) (Kd.V_far (p := ⟨gb300, 0, none⟩) (Kd.V_far (p := ⟨gb310, 1, none⟩) (Kd.V_far (p := ⟨gb310, 0, none⟩) (Kd.V_mono (Kd.V_mono HO_299000.out (fun k_ hk => (⟨hk, hk.2⟩ : _ ∧ k_ ≠ gb310))) (fun k_ hk => (⟨hk, hk.1.1.2.2.2⟩ : _ ∧ k_ ≠ gb300))) (fun _ hk => hk.1.2) (.slice Ao32 t303.length co32)) (fun _ hk => hk.1.2) (.slice Ao37 t306.length co37)) (fun _ hk => hk.2) (.slice Ao32 t303.length co32)) (fun _ hk => hk.2) (.slice Ao37 t306.length co37)) (fun _ hk => ⟨hk.1.1.1.1, ⟨hk.1.1.1.2.1, ⟨hk.1.1.1.2.2.1, hk.1.1.1.2.2.2⟩⟩⟩)⟩, ⟨by (with_reducible repeat (first | apply Kd.V_alloc | apply Kd.V_drewN | apply Kd.V_drew)); exact Kd.V_mono (Kd.V_far (p := ⟨gb300, 1, none⟩) (Kd.V_far (p := ⟨gb300, 0, none⟩) (Kd.V_far (p := ⟨gb310, 1, none⟩) (Kd.V_far (p := ⟨gb310, 0, none⟩) (Kd.V_mono (Kd.V_mono HO_299001.out (fun k_ hk => (⟨hk, hk.2⟩ : _ ∧ k_ ≠ gb310))) (fun k_ hk => (⟨hk, hk.1.1.2.2.2⟩ : _ ∧ k_ ≠ gb300))) (fun _ hk => hk.1.2) (.slice Ao32 t303.length co32)) (fun _ hk => hk.1.2) (.slice Ao37 t306.length co37)) (fun _ hk => hk.2) (.slice Ao32 t303.length co32)) (fun _ hk => hk.2) (.slice Ao37 t306.length co37)) (fun _ hk => ⟨hk.1.1.1.1, ⟨hk.1.1.1.2.1, ⟨hk.1.1.1.2.2.1, hk.1.1.1.2.2.2⟩⟩⟩)⟩, ⟨by (with_reducible repeat (first | apply Kd.V_alloc | apply Kd.V_drewN | apply Kd.V_drew)); exact Kd.V_mono (Kd.V_far (p := ⟨gb300, 1, none⟩) (Kd.V_far (p := ⟨gb300, 0, none⟩) (Kd.V_far (p := ⟨gb310, 1, none⟩) (Kd.V_far (p := ⟨gb310, 0, none⟩) (Kd.V_mono (Kd.V_mono HO305.out (fun k_ hk => (⟨hk, hk.2⟩ : _ ∧ k_ ≠ gb310))) (fun k_ hk => (⟨hk, hk.1.1.2.2.2⟩ : _ ∧ k_ ≠ gb300))) (fun _ hk => hk.1.2) (.slice Ao32 t303.length co32)) (fun _ hk => hk.1.2) (.slice Ao37 t306.length co37)) (fun _ hk => hk.2) (.slice Ao32 t303.length co32)) (fun _ hk => hk.2) (.slice Ao37 t306.length co37)) (fun _ hk => ⟨hk.1.1.1.1, ⟨hk.1.1.1.2.1, ⟨hk.1.1.1.2.2.1, hk.1.1.1.2.2.2⟩⟩⟩)⟩, ⟨by (with_reducible repeat (first | apply Kd.V_alloc | apply Kd.V_drewN | apply Kd.V_drew)); exact Kd.V_mono (Kd.V_far (p := ⟨gb300, 1, none⟩) (Kd.V_far (p := ⟨gb300, 0, none⟩) (Kd.V_far (p := ⟨gb310, 1, none⟩) (Kd.V_far (p := ⟨gb310, 0, none⟩) (Kd.V_mono (Kd.V_mono HO308.out (fun k_ hk => (⟨hk, hk.2⟩ : _ ∧ k_ ≠ gb310))) (fun k_ hk => (⟨hk, hk.1.1.2.2.2⟩ : _ ∧ k_ ≠ gb300))) (fun _ hk => hk.1.2) (.slice Ao32 t303.length co32)) (fun _ hk => hk.1.2) (.slice Ao37 t306.length co37)) (fun _ hk => hk.2) (.slice Ao32 t303.length co32)) (fun _ hk => hk.2) (.slice Ao37 t306.length co37)) (fun _ hk => ⟨hk.1.1.1.1, ⟨hk.1.1.1.2.1, ⟨hk.1.1.1.2.2.1, hk.1.1.1.2.2.2⟩⟩⟩)⟩, ⟨by (with_reducible repeat (first | apply xN_ | apply xD_ | apply xA_)); refine xR_ ?_ NB298_300.out _; refine xR_ ?_ NB298_300.out _; refine xR_ ?_ NB298_310.out _; refine xR_ ?_ NB298_310.out _; (with_reducible repeat (first | apply xN_ | apply xD_ | apply xA_)); exact BK298.out⟩, ⟨by (with_reducible repeat (first | apply xN_ | apply xD_ | apply xA_)); refine xR_ ?_ NB299_300.out _; refine xR_ ?_ NB299_300.out _; refine xR_ ?_ NB299_310.out _; refine xR_ ?_ NB299_310.out _; (with_reducible repeat (first | apply xN_ | apply xD_ | apply xA_)); exact BK299.out⟩, ⟨by (with_reducible repeat (first | apply xN_ | apply xD_ | apply xA_)); refine blk_put (cs := #[.slice Ao32 t303.length co32, .slice Ao29 x301001_1.length co29]) ?_ 1 _ rfl; refine blk_put (cs := #[.slice Ao28 x301000_1.length co28, .slice Ao29 x301001_1.length co29]) ?_ 0 _ rfl; refine xR_ ?_ NB300_310.out _; refine xR_ ?_ NB300_310.out _; (with_reducible repeat (first | apply xN_ | apply xD_ | apply xA_)); exact BK300.out⟩, ⟨qH⟩⟩
          ·exact absurd rfl c24
         ·replace c22 := Bool.eq_false_iff.mpr c22
          subst c22
          rw [if_neg nF_] at H
          replace H := Option.bind_eq_some_iff.mp H
          obtain ⟨⟨t313, t316, t319⟩, A560, H⟩ := H
          try dsimp only at H
          have A56 := Aside0.mk A560
          clear A560
          by_cases c57 : t319 = 0
          ·rw [if_pos c57] at H
           have c57b0 : (t319 == 0) = true := beq_iff_eq.mpr c57
           have c57b1 : (t319 != 0) = false := bne_eq_false_iff_eq.mpr c57
           clear c57
           have H' := Aside0.mk H
           clear H
           have p302 : 0 ≤ (x9_1 : Int) := of_decide_eq_true aS
           have q302 : x9_1 < (l1.length : Int) := of_decide_eq_true aS
           obtain ⟨ad302, e302, hx302_0, hx302_1, hx302_2⟩ := at_T85 HR1.out x9_1 p302 q302
           (try rw [← Nbq21.out] at hx302_0)
           cases e302
           replace hx302_0 := (HB.out.cell (World.block_lt_of_cell? w _ hx302_0)).trans hx302_0
           replace hx302_1 := (HB.out.cell (World.block_lt_of_cell? w _ hx302_1)).trans hx302_1
           replace hx302_2 := (HB.out.cell (World.block_lt_of_cell? w _ hx302_2)).trans hx302_2
           replace p302 := eq_true p302
           replace q302 := eq_true q302
           obtain ⟨Ao58, co58, eo58⟩ := Kd.V_slice HO_301000.out
           subst eo58
           obtain ⟨Ao59, co59, eo59⟩ := Kd.V_slice HO_301001.out
           subst eo59
           try go_wp2
           replace HO_299000 := Aside0.mk (Kd.V_drew HO_299000.out)
           replace HO_299001 := Aside0.mk (Kd.V_drew HO_299001.out)
           replace HO_301000 := Aside0.mk (Kd.V_drew HO_301000.out)
           replace HO_301001 := Aside0.mk (Kd.V_drew HO_301001.out)
           replace BK298 := Aside0.mk (xD_ BK298.out)
           replace BK299 := Aside0.mk (xD_ BK299.out)
           replace BK300 := Aside0.mk (xD_ BK300.out)
           replace HB := Aside0.mk (yD_ HB.out)
           have p311 : 0 ≤ (x9_1 : Int) := of_decide_eq_true aS
           have q311 : x9_1 < (l1.length : Int) := of_decide_eq_true aS
           obtain ⟨ad311, e311, hx311_0, hx311_1, hx311_2⟩ := at_T85 HR1.out x9_1 p311 q311
           have hw311_2 := hx311_2
           have hw311_1 := hx311_1
           (try rw [← Nbq21.out] at hx311_0)
           have hw311_0 := hx311_0
           obtain rfl : ad302 = ad311 := (by injection e311)
           replace hx311_0 := (HB.out.cell (World.block_lt_of_cell? w _ hx311_0)).trans hx311_0
           replace hx311_1 := (HB.out.cell (World.block_lt_of_cell? w _ hx311_1)).trans hx311_1
           replace hx311_2 := (HB.out.cell (World.block_lt_of_cell? w _ hx311_2)).trans hx311_2
           replace p311 := eq_true p311
           replace q311 := eq_true q311
           have p312 : 0 ≤ (x9_1 : Int) := of_decide_eq_true aS
           have q312 : x9_1 < (l1.length : Int) := of_decide_eq_true aS
           obtain ⟨ad312, e312, hx312_0, hx312_1, hx312_2⟩ := at_T85 HR1.out x9_1 p312 q312
           have hw312_2 := hx312_2
           have hw312_1 := hx312_1
           (try rw [← Nbq21.out] at hx312_0)
           have hw312_0 := hx312_0
           obtain rfl : ad302 = ad312 := (by injection e312)
           replace hx312_0 := (HB.out.cell (World.block_lt_of_cell? w _ hx312_0)).trans hx312_0
           replace hx312_1 := (HB.out.cell (World.block_lt_of_cell? w _ hx312_1)).trans hx312_1
           replace hx312_2 := (HB.out.cell (World.block_lt_of_cell? w _ hx312_2)).trans hx312_2
           replace p312 := eq_true p312
           replace q312 := eq_true q312
           refine start_ (n := 18) (S := fun w' => w'.cell? ⟨gb300, 0, none⟩ = some (.slice Ao58 x301000_1.length co58) ∧ w'.cell? ⟨gb300, 1, none⟩ = some (.slice Ao59 x301001_1.length co59) ∧ w'.cell? (ad302.add ((x9_1).toNat * 3)) = some (.bool (false)) ∧ w'.cell? ⟨(ad302.add ((x9_1).toNat * 3)).block, (ad302.add ((x9_1).toNat * 3)).off + 1, none⟩ = some (.int .i64 ((rd_T85 l1 x9_1).f1)) ∧ w'.cell? ⟨(ad302.add ((x9_1).toNat * 3)).block, (ad302.add ((x9_1).toNat * 3)).off + 2, none⟩ = some (.string ((rd_T85 l1 x9_1).f2)) ∧ w'.cell? (ad302.add ((x9_1).toNat * 3)) = some (.bool (false)) ∧ w'.cell? ⟨(ad302.add ((x9_1).toNat * 3)).block, (ad302.add ((x9_1).toNat * 3)).off + 1, none⟩ = some (.int .i64 ((rd_T85 l1 x9_1).f1)) ∧ w'.cell? ⟨(ad302.add ((x9_1).toNat * 3)).block, (ad302.add ((x9_1).toNat * 3)).off + 2, none⟩ = some (.string ((rd_T85 l1 x9_1).f2))) (ds := []) #[F_,F_,F_,F_,F_,F_,F_,F_,F_,F_,F_,F_,F_,F_,F_,F_,F_,F_] (by kernel_rfl) rfl rfl ⟨c0_ BK300, c1_ BK300, ((HB.out.cell (World.block_lt_of_cell? w _ hw311_0)).trans hw311_0), ((HB.out.cell (World.block_lt_of_cell? w _ hw311_1)).trans hw311_1), ((HB.out.cell (World.block_lt_of_cell? w _ hw311_2)).trans hw311_2), ((HB.out.cell (World.block_lt_of_cell? w _ hw312_0)).trans hw312_0), ((HB.out.cell (World.block_lt_of_cell? w _ hw312_1)).trans hw312_1), ((HB.out.cell (World.block_lt_of_cell? w _ hw312_2)).trans hw312_2)⟩ (fun hHeld => ?_); refine with_tabW armadaref01_Run.tab11 armadaref01_Run.bits11 (fun HT_ HW_ => ?_)
           generalize wc.drew = w60 at HO_299000 HO_299001 HO_301000 HO_301001 BK298 BK299 BK300 HB hx311_0 hx311_1 hx311_2 hx312_0 hx312_1 hx312_2 hHeld ⊢
           refine pU 1 (some 44) #[F_,T_,F_,F_,F_,F_,F_,F_,F_,F_,F_,F_,F_,F_,F_,F_,F_,F_] HT_ ?_
           refine pU 2 (some 45) #[F_,T_,T_,F_,F_,F_,F_,F_,F_,F_,F_,F_,F_,F_,F_,F_,F_,F_] HT_ ?_
           refine pU 3 (some 46) #[F_,T_,T_,T_,F_,F_,F_,F_,F_,F_,F_,F_,F_,F_,F_,F_,F_,F_] HT_ ?_
           refine pU 4 (some 47) #[F_,T_,T_,T_,T_,F_,F_,F_,F_,F_,F_,F_,F_,F_,F_,F_,F_,F_] HT_ ?_
           refine pU 6 (some 49) #[F_,T_,T_,T_,T_,F_,T_,F_,F_,F_,F_,F_,F_,F_,F_,F_,F_,F_] HT_ ?_
           refine pU 7 (some 50) #[F_,T_,T_,T_,T_,F_,T_,T_,F_,F_,F_,F_,F_,F_,F_,F_,F_,F_] HT_ ?_
           refine pU 8 (some 51) #[F_,T_,T_,T_,T_,F_,T_,T_,T_,F_,F_,F_,F_,F_,F_,F_,F_,F_] HT_ ?_
           refine pU 9 (some 52) #[F_,T_,T_,T_,T_,F_,T_,T_,T_,T_,F_,F_,F_,F_,F_,F_,F_,F_] HT_ ?_
           refine tK 0 (some 43) #[T_,T_,T_,T_,T_,F_,T_,T_,T_,T_,F_,F_,F_,F_,F_,F_,F_,F_] HT_ HW_ hHeld ?_
           refine tK 5 (some 48) #[T_,T_,T_,T_,T_,T_,T_,T_,T_,T_,F_,F_,F_,F_,F_,F_,F_,F_] HT_ HW_ hHeld ?_
           refine tK 10 (some 53) #[T_,T_,T_,T_,T_,T_,T_,T_,T_,T_,T_,F_,F_,F_,F_,F_,F_,F_] HT_ HW_ hHeld ?_
           refine join_ (σ := Value × Value × Nat) 2 #[T_,T_,T_,T_,T_,T_,T_,T_,T_,T_,T_,T_,T_,T_,T_,T_,F_,F_] (fun s_ => [(54, .tuple #[.agg #[s_.1, s_.2.1], .int .i64 t319]), (13, .pointer (some ⟨s_.2.2, 0, none⟩)), (42, .tuple #[.agg #[s_.1, s_.2.1], .int .i64 t319]), (55, .agg #[s_.1, s_.2.1]), (56, .int .i64 t319)]) (fun s_ w' => (w'.cell? ⟨gb300, 0, none⟩ = some (.slice Ao58 x301000_1.length co58) ∧ w'.cell? ⟨gb300, 1, none⟩ = some (.slice Ao59 x301001_1.length co59) ∧ w'.cell? (ad302.add ((x9_1).toNat * 3)) = some (.bool (false)) ∧ w'.cell? ⟨(ad302.add ((x9_1).toNat * 3)).block, (ad302.add ((x9_1).toNat * 3)).off + 1, none⟩ = some (.int .i64 ((rd_T85 l1 x9_1).f1)) ∧ w'.cell? ⟨(ad302.add ((x9_1).toNat * 3)).block, (ad302.add ((x9_1).toNat * 3)).off + 2, none⟩ = some (.string ((rd_T85 l1 x9_1).f2)) ∧ w'.cell? (ad302.add ((x9_1).toNat * 3)) = some (.bool (false)) ∧ w'.cell? ⟨(ad302.add ((x9_1).toNat * 3)).block, (ad302.add ((x9_1).toNat * 3)).off + 1, none⟩ = some (.int .i64 ((rd_T85 l1 x9_1).f1)) ∧ w'.cell? ⟨(ad302.add ((x9_1).toNat * 3)).block, (ad302.add ((x9_1).toNat * 3)).off + 2, none⟩ = some (.string ((rd_T85 l1 x9_1).f2))) ∧ (Kd.V Kd.string 9 w' w.heap.size (fun k_ => ((P0_0_ k_ ∨ P0_1_ k_) ∨ w.heap.size ≤ k_) ∧ k_ ≠ gb298 ∧ k_ ≠ gb299 ∧ k_ ≠ gb300 ∧ k_ ≠ s_.2.2) s_.1 t313) ∧ (Kd.V k29 29 w' w.heap.size (fun k_ => ((P0_0_ k_ ∨ P0_1_ k_) ∨ w.heap.size ≤ k_) ∧ k_ ≠ gb298 ∧ k_ ≠ gb299 ∧ k_ ≠ gb300 ∧ k_ ≠ s_.2.2) s_.2.1 t316) ∧ (Kd.V Kd.string 9 w' w.heap.size (fun k_ => ((P0_0_ k_ ∨ P0_1_ k_) ∨ w.heap.size ≤ k_) ∧ k_ ≠ gb298 ∧ k_ ≠ gb299 ∧ k_ ≠ gb300 ∧ k_ ≠ s_.2.2) (.slice A0_0 l0_0.length c0_0) l0_0) ∧ (Kd.V k29 29 w' w.heap.size (fun k_ => ((P0_0_ k_ ∨ P0_1_ k_) ∨ w.heap.size ≤ k_) ∧ k_ ≠ gb298 ∧ k_ ≠ gb299 ∧ k_ ≠ gb300 ∧ k_ ≠ s_.2.2) (.slice A0_1 l0_1.length c0_1) l0_1) ∧ (Kd.V Kd.string 9 w' w.heap.size (fun k_ => ((P0_0_ k_ ∨ P0_1_ k_) ∨ w.heap.size ≤ k_) ∧ k_ ≠ gb298 ∧ k_ ≠ gb299 ∧ k_ ≠ gb300 ∧ k_ ≠ s_.2.2) (.slice Ao58 x301000_1.length co58) x301000_1) ∧ (Kd.V k29 29 w' w.heap.size (fun k_ => ((P0_0_ k_ ∨ P0_1_ k_) ∨ w.heap.size ≤ k_) ∧ k_ ≠ gb298 ∧ k_ ≠ gb299 ∧ k_ ≠ gb300 ∧ k_ ≠ s_.2.2) (.slice Ao59 x301001_1.length co59) x301001_1) ∧ (w'.heap[gb298]? = some (.cells #[.slice A0_0 l0_0.length c0_0, .slice A0_1 l0_1.length c0_1] 25 (0, 0))) ∧ (w'.heap[gb299]? = some (.cells #[.slice none 0 0, .slice none 0 0] 25 (0, 0))) ∧ (w'.heap[gb300]? = some (.cells #[.slice Ao58 x301000_1.length co58, .slice Ao59 x301001_1.length co59] 25 (0, 0))) ∧ (w'.heap[s_.2.2]? = some (.cells #[.slice none 0 0, .slice none 0 0] 25 (0, 0))) ∧ (w.heap.size ≤ s_.2.2) ∧ (w.heap.size ≤ s_.2.2) ∧ (gb298 ≠ s_.2.2) ∧ (s_.2.2 ≠ gb298) ∧ (gb299 ≠ s_.2.2) ∧ (s_.2.2 ≠ gb299) ∧ (gb300 ≠ s_.2.2) ∧ (s_.2.2 ≠ gb300) ∧ (Below w.heap.size w w')) ?_ ?_
           rotate_left
           ·intro hCont
            refine two_ (i := 11) (j := 15) (Ni := some 54) (Nj := some 13) #[T_,T_,T_,T_,T_,T_,T_,T_,T_,T_,T_,T_,F_,F_,F_,F_,F_,F_] #[T_,T_,T_,T_,T_,T_,T_,T_,T_,T_,T_,F_,F_,F_,F_,T_,F_,F_] rfl rfl rfl rfl (two_of HT_.out (by kernel_rfl)) (by decide) (by decide) (fun K hK => ?_) (fun K hK => ?_)
            ·skip
             refine gO Try.func50 #[.agg #[.slice Ao58 x301000_1.length co58, .slice Ao59 x301001_1.length co59], .int .i64 ((rd_T85 l1 x9_1).f1), .string ((rd_T85 l1 x9_1).f2)] ?_
             with_reducible refine (armadaref01_Put.calls kj15 (fun k_ => (((P0_0_ k_ ∨ P0_1_ k_) ∨ w.heap.size ≤ k_) ∧ (k_ ≠ gb298 ∧ (k_ ≠ gb299 ∧ k_ ≠ gb300)))) _ _ x301000_1 (fun k_ => (((P0_0_ k_ ∨ P0_1_ k_) ∨ w.heap.size ≤ k_) ∧ (k_ ≠ gb298 ∧ (k_ ≠ gb299 ∧ k_ ≠ gb300)))) _ _ x301001_1 ((rd_T85 l1 x9_1).f1) ((rd_T85 l1 x9_1).f2) t313 t316 t319 _ ?side1 ?side2 A56.out).mono ?_
             (case side1 => exact HO_301000.out)
             (case side2 => exact HO_301001.out)
             rintro e w61 ⟨v314, v317, rfl, ho0, ho1, hb⟩
             refine ⟨_, rfl, ?_⟩
             have hz_ := zqA HB hb
             replace hb := below_step hz_ hb
             replace HO_299000 := zV HO_299000 hb
             replace HO_299001 := zV HO_299001 hb
             replace HO_301000 := zV HO_301000 hb
             replace HO_301001 := zV HO_301001 hb
             have HO315 := Aside0.mk (Kd.V_lower (Kd.V_mono (ok' := fun k_ => ((P0_0_ k_ ∨ P0_1_ k_) ∨ w.heap.size ≤ k_) ∧ k_ ≠ gb298 ∧ k_ ≠ gb299 ∧ k_ ≠ gb300) ho0 (fun k_ hk_ => ⟨Or.elim hk_ (fun hs_ => Or.elim hs_ (fun hs_ => hs_.1) (fun hs_ => hs_.1)) (fun hn_ => (.inr (Nat.le_trans (zs HB hz_) hn_))), Or.elim hk_ (fun hs_ => Or.elim hs_ (fun hs_ => hs_.2.1) (fun hs_ => hs_.2.1)) (zf BK298 hz_ k_), Or.elim hk_ (fun hs_ => Or.elim hs_ (fun hs_ => hs_.2.2.1) (fun hs_ => hs_.2.2.1)) (zf BK299 hz_ k_), Or.elim hk_ (fun hs_ => Or.elim hs_ (fun hs_ => hs_.2.2.2) (fun hs_ => hs_.2.2.2)) (zf BK300 hz_ k_)⟩)) (zs HB hz_))
             have HO318 := Aside0.mk (Kd.V_lower (Kd.V_mono (ok' := fun k_ => ((P0_0_ k_ ∨ P0_1_ k_) ∨ w.heap.size ≤ k_) ∧ k_ ≠ gb298 ∧ k_ ≠ gb299 ∧ k_ ≠ gb300) ho1 (fun k_ hk_ => ⟨Or.elim hk_ (fun hs_ => Or.elim hs_ (fun hs_ => hs_.1) (fun hs_ => hs_.1)) (fun hn_ => (.inr (Nat.le_trans (zs HB hz_) hn_))), Or.elim hk_ (fun hs_ => Or.elim hs_ (fun hs_ => hs_.2.1) (fun hs_ => hs_.2.1)) (zf BK298 hz_ k_), Or.elim hk_ (fun hs_ => Or.elim hs_ (fun hs_ => hs_.2.2.1) (fun hs_ => hs_.2.2.1)) (zf BK299 hz_ k_), Or.elim hk_ (fun hs_ => Or.elim hs_ (fun hs_ => hs_.2.2.2) (fun hs_ => hs_.2.2.2)) (zf BK300 hz_ k_)⟩)) (zs HB hz_))
             replace BK298 := zB BK298 hb
             replace BK299 := zB BK299 hb
             replace BK300 := zB BK300 hb
             replace HB := zH HB hb
             clear hz_
             (try clear hb)
             (try clear hb2)
             (try clear hk)
             (try clear hi)
             (try clear ho0)
             (try clear ho1)
             refine hK.out _ _ ⟨c0_ BK300, c1_ BK300, ((HB.out.cell (World.block_lt_of_cell? w _ hw311_0)).trans hw311_0), ((HB.out.cell (World.block_lt_of_cell? w _ hw311_1)).trans hw311_1), ((HB.out.cell (World.block_lt_of_cell? w _ hw311_2)).trans hw311_2), ((HB.out.cell (World.block_lt_of_cell? w _ hw312_0)).trans hw312_0), ((HB.out.cell (World.block_lt_of_cell? w _ hw312_1)).trans hw312_1), ((HB.out.cell (World.block_lt_of_cell? w _ hw312_2)).trans hw312_2)⟩ (fun hHeld => ?_)
             clear hK K
             refine nS (some 54) ?_
             refine pU 12 (some 42) #[T_,T_,T_,T_,T_,T_,T_,T_,T_,T_,T_,T_,T_,F_,F_,F_,F_,F_] HT_ ?_
             refine pU 13 (some 55) #[T_,T_,T_,T_,T_,T_,T_,T_,T_,T_,T_,T_,T_,T_,F_,F_,F_,F_] HT_ ?_
             refine pU 14 (some 56) #[T_,T_,T_,T_,T_,T_,T_,T_,T_,T_,T_,T_,T_,T_,T_,F_,F_,F_] HT_ ?_
             refine oN 15 (some 13) #[T_,T_,T_,T_,T_,T_,T_,T_,T_,T_,T_,T_,T_,T_,T_,T_,F_,F_] HT_ (fun K hK => ?_)
             refine box_step ?hg (N := 13) ?hd (cs := #[.slice none 0 0, .slice none 0 0]) (t := 25) ?hr ?_; (case hd => rfl); (case hg => rfl); (case hr => first | (go_simp; done) | (go_simp; rfl))
             intro gb320 hg w62 hbox hb
             have hz_ := zqA HB hb
             replace hb := below_step hz_ hb
             replace HO_299000 := zE HO_299000 hz_ hg hb
             replace HO_299001 := zE HO_299001 hz_ hg hb
             replace HO_301000 := zE HO_301000 hz_ hg hb
             replace HO_301001 := zE HO_301001 hz_ hg hb
             replace HO315 := zE HO315 hz_ hg hb
             replace HO318 := zE HO318 hz_ hg hb
             have BK320 := Aside0.mk hbox
             have GW320 := zG HB hz_ hg
             have GE320 := zG HB hz_ hg
             have NB298_320 := zN BK298 hz_ hg
             have NB320_298 := zM BK298 hz_ hg
             have NB299_320 := zN BK299 hz_ hg
             have NB320_299 := zM BK299 hz_ hg
             have NB300_320 := zN BK300 hz_ hg
             have NB320_300 := zM BK300 hz_ hg
             replace BK298 := zB BK298 hb
             replace BK299 := zB BK299 hb
             replace BK300 := zB BK300 hb
             replace HB := zH HB hb
             clear hz_
             clear hb hbox hg
             refine hK.out _ _ ⟨c0_ BK300, c1_ BK300, ((HB.out.cell (World.block_lt_of_cell? w _ hw311_0)).trans hw311_0), ((HB.out.cell (World.block_lt_of_cell? w _ hw311_1)).trans hw311_1), ((HB.out.cell (World.block_lt_of_cell? w _ hw311_2)).trans hw311_2), ((HB.out.cell (World.block_lt_of_cell? w _ hw312_0)).trans hw312_0), ((HB.out.cell (World.block_lt_of_cell? w _ hw312_1)).trans hw312_1), ((HB.out.cell (World.block_lt_of_cell? w _ hw312_2)).trans hw312_2)⟩ (fun hHeld => ?_)
             clear hK K
             refine nS (some 13) ?_
             exact norm_ (by simp only [putAll, Act.put, List.setIfInBounds_toArray, List.set_cons_zero, List.set_cons_succ]) (hCont (v314, v317, gb320) _ ⟨hHeld, (qV (Kd.V_mono HO315.out (fun _ hk => ⟨hk.1.1, ⟨hk.1.2.1, ⟨hk.1.2.2.1, ⟨hk.1.2.2.2, hk.2⟩⟩⟩⟩))), (qV (Kd.V_mono HO318.out (fun _ hk => ⟨hk.1.1, ⟨hk.1.2.1, ⟨hk.1.2.2.1, ⟨hk.1.2.2.2, hk.2⟩⟩⟩⟩))), (qV (Kd.V_mono HO_299000.out (fun _ hk => ⟨hk.1.1, ⟨hk.1.2.1, ⟨hk.1.2.2.1, ⟨hk.1.2.2.2, hk.2⟩⟩⟩⟩))), (qV (Kd.V_mono HO_299001.out (fun _ hk => ⟨hk.1.1, ⟨hk.1.2.1, ⟨hk.1.2.2.1, ⟨hk.1.2.2.2, hk.2⟩⟩⟩⟩))), (qV (Kd.V_mono HO_301000.out (fun _ hk => ⟨hk.1.1, ⟨hk.1.2.1, ⟨hk.1.2.2.1, ⟨hk.1.2.2.2, hk.2⟩⟩⟩⟩))), (qV (Kd.V_mono HO_301001.out (fun _ hk => ⟨hk.1.1, ⟨hk.1.2.1, ⟨hk.1.2.2.1, ⟨hk.1.2.2.2, hk.2⟩⟩⟩⟩))), (qB BK298), (qB BK299), (qB BK300), (qB BK320), GW320.out, GE320.out, NB298_320.out, NB320_298.out, NB299_320.out, NB320_299.out, NB300_320.out, NB320_300.out, qH⟩)
            ·skip
             refine box_step ?hg (N := 13) ?hd (cs := #[.slice none 0 0, .slice none 0 0]) (t := 25) ?hr ?_; (case hd => rfl); (case hg => rfl); (case hr => first | (go_simp; done) | (go_simp; rfl))
             intro gb320 hg w61 hbox hb
             have hz_ := zqA HB hb
             replace hb := below_step hz_ hb
             replace HO_299000 := zE HO_299000 hz_ hg hb
             replace HO_299001 := zE HO_299001 hz_ hg hb
             replace HO_301000 := zE HO_301000 hz_ hg hb
             replace HO_301001 := zE HO_301001 hz_ hg hb
             have BK320 := Aside0.mk hbox
             have GW320 := zG HB hz_ hg
             have GE320 := zG HB hz_ hg
             have NB298_320 := zN BK298 hz_ hg
             have NB320_298 := zM BK298 hz_ hg
             have NB299_320 := zN BK299 hz_ hg
             have NB320_299 := zM BK299 hz_ hg
             have NB300_320 := zN BK300 hz_ hg
             have NB320_300 := zM BK300 hz_ hg
             replace BK298 := zB BK298 hb
             replace BK299 := zB BK299 hb
             replace BK300 := zB BK300 hb
             replace HB := zH HB hb
             clear hz_
             clear hb hbox hg
             refine hK.out _ _ ⟨c0_ BK300, c1_ BK300, ((HB.out.cell (World.block_lt_of_cell? w _ hw311_0)).trans hw311_0), ((HB.out.cell (World.block_lt_of_cell? w _ hw311_1)).trans hw311_1), ((HB.out.cell (World.block_lt_of_cell? w _ hw311_2)).trans hw311_2), ((HB.out.cell (World.block_lt_of_cell? w _ hw312_0)).trans hw312_0), ((HB.out.cell (World.block_lt_of_cell? w _ hw312_1)).trans hw312_1), ((HB.out.cell (World.block_lt_of_cell? w _ hw312_2)).trans hw312_2)⟩ (fun hHeld => ?_)
             clear hK K
             refine nS (some 13) ?_
             refine oN 11 (some 54) #[T_,T_,T_,T_,T_,T_,T_,T_,T_,T_,T_,T_,F_,F_,F_,T_,F_,F_] HT_ (fun K hK => ?_)
             refine gO Try.func50 #[.agg #[.slice Ao58 x301000_1.length co58, .slice Ao59 x301001_1.length co59], .int .i64 ((rd_T85 l1 x9_1).f1), .string ((rd_T85 l1 x9_1).f2)] ?_
             with_reducible refine (armadaref01_Put.calls kj15 (fun k_ => ((((P0_0_ k_ ∨ P0_1_ k_) ∨ w.heap.size ≤ k_) ∧ (k_ ≠ gb298 ∧ (k_ ≠ gb299 ∧ k_ ≠ gb300))) ∧ k_ ≠ gb320)) _ _ x301000_1 (fun k_ => ((((P0_0_ k_ ∨ P0_1_ k_) ∨ w.heap.size ≤ k_) ∧ (k_ ≠ gb298 ∧ (k_ ≠ gb299 ∧ k_ ≠ gb300))) ∧ k_ ≠ gb320)) _ _ x301001_1 ((rd_T85 l1 x9_1).f1) ((rd_T85 l1 x9_1).f2) t313 t316 t319 _ ?side1 ?side2 A56.out).mono ?_
             (case side1 => exact HO_301000.out)
             (case side2 => exact HO_301001.out)
             rintro e w62 ⟨v314, v317, rfl, ho0, ho1, hb⟩
             refine ⟨_, rfl, ?_⟩
             have hz_ := zqA HB hb
             replace hb := below_step hz_ hb
             replace HO_299000 := zV HO_299000 hb
             replace HO_299001 := zV HO_299001 hb
             replace HO_301000 := zV HO_301000 hb
             replace HO_301001 := zV HO_301001 hb
             have HO315 := Aside0.mk (Kd.V_lower (Kd.V_mono (ok' := fun k_ => ((P0_0_ k_ ∨ P0_1_ k_) ∨ w.heap.size ≤ k_) ∧ k_ ≠ gb298 ∧ k_ ≠ gb299 ∧ k_ ≠ gb300 ∧ k_ ≠ gb320) ho0 (fun k_ hk_ => ⟨Or.elim hk_ (fun hs_ => Or.elim hs_ (fun hs_ => hs_.1.1) (fun hs_ => hs_.1.1)) (fun hn_ => (.inr (Nat.le_trans (zs HB hz_) hn_))), Or.elim hk_ (fun hs_ => Or.elim hs_ (fun hs_ => hs_.1.2.1) (fun hs_ => hs_.1.2.1)) (zf BK298 hz_ k_), Or.elim hk_ (fun hs_ => Or.elim hs_ (fun hs_ => hs_.1.2.2.1) (fun hs_ => hs_.1.2.2.1)) (zf BK299 hz_ k_), Or.elim hk_ (fun hs_ => Or.elim hs_ (fun hs_ => hs_.1.2.2.2) (fun hs_ => hs_.1.2.2.2)) (zf BK300 hz_ k_), Or.elim hk_ (fun hs_ => Or.elim hs_ (fun hs_ => hs_.2) (fun hs_ => hs_.2)) (zf BK320 hz_ k_)⟩)) (zs HB hz_))
             have HO318 := Aside0.mk (Kd.V_lower (Kd.V_mono (ok' := fun k_ => ((P0_0_ k_ ∨ P0_1_ k_) ∨ w.heap.size ≤ k_) ∧ k_ ≠ gb298 ∧ k_ ≠ gb299 ∧ k_ ≠ gb300 ∧ k_ ≠ gb320) ho1 (fun k_ hk_ => ⟨Or.elim hk_ (fun hs_ => Or.elim hs_ (fun hs_ => hs_.1.1) (fun hs_ => hs_.1.1)) (fun hn_ => (.inr (Nat.le_trans (zs HB hz_) hn_))), Or.elim hk_ (fun hs_ => Or.elim hs_ (fun hs_ => hs_.1.2.1) (fun hs_ => hs_.1.2.1)) (zf BK298 hz_ k_), Or.elim hk_ (fun hs_ => Or.elim hs_ (fun hs_ => hs_.1.2.2.1) (fun hs_ => hs_.1.2.2.1)) (zf BK299 hz_ k_), Or.elim hk_ (fun hs_ => Or.elim hs_ (fun hs_ => hs_.1.2.2.2) (fun hs_ => hs_.1.2.2.2)) (zf BK300 hz_ k_), Or.elim hk_ (fun hs_ => Or.elim hs_ (fun hs_ => hs_.2) (fun hs_ => hs_.2)) (zf BK320 hz_ k_)⟩)) (zs HB hz_))
             replace BK298 := zB BK298 hb
             replace BK299 := zB BK299 hb
             replace BK300 := zB BK300 hb
             replace BK320 := zB BK320 hb
             replace HB := zH HB hb
             clear hz_
             (try clear hb)
             (try clear hb2)
             (try clear hk)
             (try clear hi)
             (try clear ho0)
             (try clear ho1)
             refine hK.out _ _ ⟨c0_ BK300, c1_ BK300, ((HB.out.cell (World.block_lt_of_cell? w _ hw311_0)).trans hw311_0), ((HB.out.cell (World.block_lt_of_cell? w _ hw311_1)).trans hw311_1), ((HB.out.cell (World.block_lt_of_cell? w _ hw311_2)).trans hw311_2), ((HB.out.cell (World.block_lt_of_cell? w _ hw312_0)).trans hw312_0), ((HB.out.cell (World.block_lt_of_cell? w _ hw312_1)).trans hw312_1), ((HB.out.cell (World.block_lt_of_cell? w _ hw312_2)).trans hw312_2)⟩ (fun hHeld => ?_)
             clear hK K
             refine nS (some 54) ?_
             refine pU 12 (some 42) #[T_,T_,T_,T_,T_,T_,T_,T_,T_,T_,T_,T_,T_,F_,F_,T_,F_,F_] HT_ ?_
             refine pU 13 (some 55) #[T_,T_,T_,T_,T_,T_,T_,T_,T_,T_,T_,T_,T_,T_,F_,T_,F_,F_] HT_ ?_
             refine pU 14 (some 56) #[T_,T_,T_,T_,T_,T_,T_,T_,T_,T_,T_,T_,T_,T_,T_,T_,F_,F_] HT_ ?_
             exact norm_ (by simp only [putAll, Act.put, List.setIfInBounds_toArray, List.set_cons_zero, List.set_cons_succ]) (hCont (v314, v317, gb320) _ ⟨hHeld, (qV HO315.out), (qV HO318.out), (qV (Kd.V_mono HO_299000.out (fun _ hk => ⟨hk.1.1, ⟨hk.1.2.1, ⟨hk.1.2.2.1, ⟨hk.1.2.2.2, hk.2⟩⟩⟩⟩))), (qV (Kd.V_mono HO_299001.out (fun _ hk => ⟨hk.1.1, ⟨hk.1.2.1, ⟨hk.1.2.2.1, ⟨hk.1.2.2.2, hk.2⟩⟩⟩⟩))), (qV (Kd.V_mono HO_301000.out (fun _ hk => ⟨hk.1.1, ⟨hk.1.2.1, ⟨hk.1.2.2.1, ⟨hk.1.2.2.2, hk.2⟩⟩⟩⟩))), (qV (Kd.V_mono HO_301001.out (fun _ hk => ⟨hk.1.1, ⟨hk.1.2.1, ⟨hk.1.2.2.1, ⟨hk.1.2.2.2, hk.2⟩⟩⟩⟩))), (qB BK298), (qB BK299), (qB BK300), (qB BK320), GW320.out, GE320.out, NB298_320.out, NB320_298.out, NB299_320.out, NB320_299.out, NB300_320.out, NB320_300.out, qH⟩)
           rintro ⟨v314, v317, gb320⟩ w63 ⟨hS_, h0_, h1_, h2_, h3_, h4_, h5_, h6_, h7_, h8_, h9_, h10_, h11_, h12_, h13_, h14_, h15_, h16_, h17_, h18_⟩
           have n0_ : Aside0 (Kd.V Kd.string 9 w63 w.heap.size (fun k_ => ((P0_0_ k_ ∨ P0_1_ k_) ∨ w.heap.size ≤ k_) ∧ k_ ≠ gb298 ∧ k_ ≠ gb299 ∧ k_ ≠ gb300 ∧ k_ ≠ gb320) v314 t313) := ⟨h0_⟩
           have n1_ : Aside0 (Kd.V k29 29 w63 w.heap.size (fun k_ => ((P0_0_ k_ ∨ P0_1_ k_) ∨ w.heap.size ≤ k_) ∧ k_ ≠ gb298 ∧ k_ ≠ gb299 ∧ k_ ≠ gb300 ∧ k_ ≠ gb320) v317 t316) := ⟨h1_⟩
           have n2_ : Aside0 (Kd.V Kd.string 9 w63 w.heap.size (fun k_ => ((P0_0_ k_ ∨ P0_1_ k_) ∨ w.heap.size ≤ k_) ∧ k_ ≠ gb298 ∧ k_ ≠ gb299 ∧ k_ ≠ gb300 ∧ k_ ≠ gb320) (.slice A0_0 l0_0.length c0_0) l0_0) := ⟨h2_⟩
           have n3_ : Aside0 (Kd.V k29 29 w63 w.heap.size (fun k_ => ((P0_0_ k_ ∨ P0_1_ k_) ∨ w.heap.size ≤ k_) ∧ k_ ≠ gb298 ∧ k_ ≠ gb299 ∧ k_ ≠ gb300 ∧ k_ ≠ gb320) (.slice A0_1 l0_1.length c0_1) l0_1) := ⟨h3_⟩
           have n4_ : Aside0 (Kd.V Kd.string 9 w63 w.heap.size (fun k_ => ((P0_0_ k_ ∨ P0_1_ k_) ∨ w.heap.size ≤ k_) ∧ k_ ≠ gb298 ∧ k_ ≠ gb299 ∧ k_ ≠ gb300 ∧ k_ ≠ gb320) (.slice Ao58 x301000_1.length co58) x301000_1) := ⟨h4_⟩
           have n5_ : Aside0 (Kd.V k29 29 w63 w.heap.size (fun k_ => ((P0_0_ k_ ∨ P0_1_ k_) ∨ w.heap.size ≤ k_) ∧ k_ ≠ gb298 ∧ k_ ≠ gb299 ∧ k_ ≠ gb300 ∧ k_ ≠ gb320) (.slice Ao59 x301001_1.length co59) x301001_1) := ⟨h5_⟩
           have n6_ : Aside0 (w63.heap[gb298]? = some (.cells #[.slice A0_0 l0_0.length c0_0, .slice A0_1 l0_1.length c0_1] 25 (0, 0))) := ⟨h6_⟩
           have n7_ : Aside0 (w63.heap[gb299]? = some (.cells #[.slice none 0 0, .slice none 0 0] 25 (0, 0))) := ⟨h7_⟩
           have n8_ : Aside0 (w63.heap[gb300]? = some (.cells #[.slice Ao58 x301000_1.length co58, .slice Ao59 x301001_1.length co59] 25 (0, 0))) := ⟨h8_⟩
           have n9_ : Aside0 (w63.heap[gb320]? = some (.cells #[.slice none 0 0, .slice none 0 0] 25 (0, 0))) := ⟨h9_⟩
           have n10_ : Aside0 (w.heap.size ≤ gb320) := ⟨h10_⟩
           have n11_ : Aside0 (w.heap.size ≤ gb320) := ⟨h11_⟩
           have n12_ : Aside0 (gb298 ≠ gb320) := ⟨h12_⟩
           have n13_ : Aside0 (gb320 ≠ gb298) := ⟨h13_⟩
           have n14_ : Aside0 (gb299 ≠ gb320) := ⟨h14_⟩
           have n15_ : Aside0 (gb320 ≠ gb299) := ⟨h15_⟩
           have n16_ : Aside0 (gb300 ≠ gb320) := ⟨h16_⟩
           have n17_ : Aside0 (gb320 ≠ gb300) := ⟨h17_⟩
           have n18_ : Aside0 (Below w.heap.size w w63) := ⟨h18_⟩
           clear HO_299000
           clear HO_299001
           clear HO_301000
           clear HO_301001
           clear BK298
           clear BK299
           clear BK300
           clear HB
           clear h0_ h1_ h2_ h3_ h4_ h5_ h6_ h7_ h8_ h9_ h10_ h11_ h12_ h13_ h14_ h15_ h16_ h17_ h18_
           have HO315 := n0_
           have HO318 := n1_
           have HO_299000 := n2_
           have HO_299001 := n3_
           have HO_301000 := n4_
           have HO_301001 := n5_
           have BK298 := n6_
           have BK299 := n7_
           have BK300 := n8_
           have BK320 := n9_
           have GW320 := n10_
           have GE320 := n11_
           have NB298_320 := n12_
           have NB320_298 := n13_
           have NB299_320 := n14_
           have NB320_299 := n15_
           have NB300_320 := n16_
           have NB320_300 := n17_
           have HB := n18_
           clear n0_ n1_ n2_ n3_ n4_ n5_ n6_ n7_ n8_ n9_ n10_ n11_ n12_ n13_ n14_ n15_ n16_ n17_ n18_
           have hHeld : w63.cell? ⟨gb300, 0, none⟩ = some (.slice Ao58 x301000_1.length co58) ∧ w63.cell? ⟨gb300, 1, none⟩ = some (.slice Ao59 x301001_1.length co59) ∧ w63.cell? (ad302.add ((x9_1).toNat * 3)) = some (.bool (false)) ∧ w63.cell? ⟨(ad302.add ((x9_1).toNat * 3)).block, (ad302.add ((x9_1).toNat * 3)).off + 1, none⟩ = some (.int .i64 ((rd_T85 l1 x9_1).f1)) ∧ w63.cell? ⟨(ad302.add ((x9_1).toNat * 3)).block, (ad302.add ((x9_1).toNat * 3)).off + 2, none⟩ = some (.string ((rd_T85 l1 x9_1).f2)) ∧ w63.cell? (ad302.add ((x9_1).toNat * 3)) = some (.bool (false)) ∧ w63.cell? ⟨(ad302.add ((x9_1).toNat * 3)).block, (ad302.add ((x9_1).toNat * 3)).off + 1, none⟩ = some (.int .i64 ((rd_T85 l1 x9_1).f1)) ∧ w63.cell? ⟨(ad302.add ((x9_1).toNat * 3)).block, (ad302.add ((x9_1).toNat * 3)).off + 2, none⟩ = some (.string ((rd_T85 l1 x9_1).f2)) := hS_
           obtain ⟨Ao64, co64, eo64⟩ := Kd.V_slice HO315.out
           (first | subst eo64 | (injection eo64 with f1_ f2_ f3_; have f4_ := f1_.symm; have f5_ := f3_.symm; clear f1_ f2_ f3_; subst f4_; subst f5_))
           obtain ⟨Ao66, co66, eo66⟩ := Kd.V_slice HO318.out
           (first | subst eo66 | (injection eo66 with f1_ f2_ f3_; have f4_ := f1_.symm; have f5_ := f3_.symm; clear f1_ f2_ f3_; subst f4_; subst f5_))
           refine nA ?_
           refine oN 16 (none) #[T_,T_,T_,T_,T_,T_,T_,T_,T_,T_,T_,T_,T_,T_,T_,T_,T_,F_] HT_ (fun K hK => ?_)
           have hs65 : w63.cell? ⟨gb320, 0, none⟩ = some (.slice none 0 0) := c0_ BK320
           have hfs65 := xF_ BK320.out 0
           have hns65_0 := NB298_320.out
           have hns65_1 := NB299_320.out
           have hns65_2 := NB300_320.out
           have hms65_0 := NB320_298.out
           have hms65_1 := NB320_299.out
           have hms65_2 := NB320_300.out
           have hs67 : w63.cell? ⟨gb320, 1, none⟩ = some (.slice none 0 0) := c1_ BK320
           have hfs67 := xF_ BK320.out 1
           have hns67_0 := NB298_320.out
           have hns67_1 := NB299_320.out
           have hns67_2 := NB300_320.out
           have hms67_0 := NB320_298.out
           have hms67_1 := NB320_299.out
           have hms67_2 := NB320_300.out
           refine skip_ (w1 := ?_) (by rfl) rfl ?_ ?_
           rotate_left
           ·go_simp
            rfl
           refine hK.out _ _ ⟨((cell_far (p := ⟨gb320, _, none⟩) NB300_320.out _).trans (((cell_far (p := ⟨gb320, _, none⟩) NB300_320.out _).trans (hHeld.1)))), ((cell_far (p := ⟨gb320, _, none⟩) NB300_320.out _).trans (((cell_far (p := ⟨gb320, _, none⟩) NB300_320.out _).trans (hHeld.2.1)))), ((cell_far (p := ⟨gb320, _, none⟩) (aD hw311_0 GW320) _).trans (((cell_far (p := ⟨gb320, _, none⟩) (aD hw311_0 GW320) _).trans (hHeld.2.2.1)))), ((cell_far (p := ⟨gb320, _, none⟩) (aD hw311_1 GW320) _).trans (((cell_far (p := ⟨gb320, _, none⟩) (aD hw311_1 GW320) _).trans (hHeld.2.2.2.1)))), ((cell_far (p := ⟨gb320, _, none⟩) (aD hw311_2 GW320) _).trans (((cell_far (p := ⟨gb320, _, none⟩) (aD hw311_2 GW320) _).trans (hHeld.2.2.2.2.1)))), ((cell_far (p := ⟨gb320, _, none⟩) (aD hw312_0 GW320) _).trans (((cell_far (p := ⟨gb320, _, none⟩) (aD hw312_0 GW320) _).trans (hHeld.2.2.2.2.2.1)))), ((cell_far (p := ⟨gb320, _, none⟩) (aD hw312_1 GW320) _).trans (((cell_far (p := ⟨gb320, _, none⟩) (aD hw312_1 GW320) _).trans (hHeld.2.2.2.2.2.2.1)))), ((cell_far (p := ⟨gb320, _, none⟩) (aD hw312_2 GW320) _).trans (((cell_far (p := ⟨gb320, _, none⟩) (aD hw312_2 GW320) _).trans (hHeld.2.2.2.2.2.2.2))))⟩ (fun hHeld => ?_)
           clear hK K
           refine pU 17 (some 14) #[T_,T_,T_,T_,T_,T_,T_,T_,T_,T_,T_,T_,T_,T_,T_,T_,T_,T_] HT_ ?_
           refine done_ (done_of HT_.out (by kernel_rfl)) ?_
           obtain ⟨hnb68, hnc68⟩ := nn_ NB320_298
           obtain ⟨hnb69, hnc69⟩ := nn_ NB320_299
           obtain ⟨hnb70, hnc70⟩ := nn_ NB320_300
           obtain ⟨hcz71_0, hcz71_1, hfz71_0, hfz71_1⟩ := e2_ BK320
           obtain ⟨hnb72, hnc72⟩ := nn_ NB300_298
           obtain ⟨hnb73, hnc73⟩ := nn_ NB300_299
           obtain ⟨hcz74_0, hcz74_1, hfz74_0, hfz74_1⟩ := e2_ BK300
           try go_wp2
           go_roundg kj15
           case measure => have := HK1.out; have := HJ15.out; omega
           case rel => exact ⟨(wrap64 (x9_1 + 1)), (t313), (t316), (.slice Ao64 t313.length co64), (.slice Ao66 t316.length co66), eY, H', ⟨by have := HK1.out; have := HJ15.out; omega⟩, ⟨by (with_reducible repeat (first | apply Kd.V_alloc | apply Kd.V_drewN | apply Kd.V_drew)); exact Kd.V_mono (Kd.V_far (p := ⟨gb300, 1, none⟩) (Kd.V_far (p := ⟨gb300, 0, none⟩) (Kd.V_far (p := ⟨gb320, 1, none⟩) (Kd.V_far (p := ⟨gb320, 0, none⟩) (Kd.V_mono (Kd.V_mono HO_299000.out (fun k_ hk => (⟨hk, hk.2.2.2.2⟩ : _ ∧ k_ ≠ gb320))) (fun k_ hk => (⟨hk, hk.1.2.2.2.1⟩ : _ ∧ k_ ≠ gb300))) (fun _ hk => hk.1.2) (.slice Ao64 t313.length co64)) (fun _ hk => hk.1.2) (.slice Ao66 t316.length co66)) (fun _ hk => hk.2) (.slice Ao64 t313.length co64)) (fun _ hk => hk.2) (.slice Ao66 t316.length co66)) (fun _ hk => ⟨hk.1.1.1, ⟨hk.1.1.2.1, ⟨hk.1.1.2.2.1, hk.1.1.2.2.2.1⟩⟩⟩)⟩, ⟨by (with_reducible repeat (first | apply Kd.V_alloc | apply Kd.V_drewN | apply Kd.V_drew)); exact Kd.V_mono (Kd.V_far (p := ⟨gb300, 1, none⟩) (Kd.V_far (p := ⟨gb300, 0, none⟩) (Kd.V_far (p := ⟨gb320, 1, none⟩) (Kd.V_far (p := ⟨gb320, 0, none⟩) (Kd.V_mono (Kd.V_mono HO_299001.out (fun k_ hk => (⟨hk, hk.2.2.2.2⟩ : _ ∧ k_ ≠ gb320))) (fun k_ hk => (⟨hk, hk.1.2.2.2.1⟩ : _ ∧ k_ ≠ gb300))) (fun _ hk => hk.1.2) (.slice Ao64 t313.length co64)) (fun _ hk => hk.1.2) (.slice Ao66 t316.length co66)) (fun _ hk => hk.2) (.slice Ao64 t313.length co64)) (fun _ hk => hk.2) (.slice Ao66 t316.length co66)) (fun _ hk => ⟨hk.1.1.1, ⟨hk.1.1.2.1, ⟨hk.1.1.2.2.1, hk.1.1.2.2.2.1⟩⟩⟩)⟩, ⟨by (with_reducible repeat (first | apply Kd.V_alloc | apply Kd.V_drewN | apply Kd.V_drew)); exact Kd.V_mono (Kd.V_far (p := ⟨gb300, 1, none⟩) (Kd.V_far (p := ⟨gb300, 0, none⟩) (Kd.V_far (p := ⟨gb320, 1, none⟩) (Kd.V_far (p := ⟨gb320, 0, none⟩) (Kd.V_mono (Kd.V_mono HO315.out (fun k_ hk => (⟨hk, hk.2.2.2.2⟩ : _ ∧ k_ ≠ gb320))) (fun k_ hk => (⟨hk, hk.1.2.2.2.1⟩ : _ ∧ k_ ≠ gb300))) (fun _ hk => hk.1.2) (.slice Ao64 t313.length co64)) (fun _ hk => hk.1.2) (.slice Ao66 t316.length co66)) (fun _ hk => hk.2) (.slice Ao64 t313.length co64)) (fun _ hk => hk.2) (.slice Ao66 t316.length co66)) (fun _ hk => ⟨hk.1.1.1, ⟨hk.1.1.2.1, ⟨hk.1.1.2.2.1, hk.1.1.2.2.2.1⟩⟩⟩)⟩, ⟨by (with_reducible repeat (first | apply Kd.V_alloc | apply Kd.V_drewN | apply Kd.V_drew)); exact Kd.V_mono (Kd.V_far (p := ⟨gb300, 1, none⟩) (Kd.V_far (p := ⟨gb300, 0, none⟩) (Kd.V_far (p := ⟨gb320, 1, none⟩) (Kd.V_far (p := ⟨gb320, 0, none⟩) (Kd.V_mono (Kd.V_mono HO318.out (fun k_ hk => (⟨hk, hk.2.2.2.2⟩ : _ ∧ k_ ≠ gb320))) (fun k_ hk => (⟨hk, hk.1.2.2.2.1⟩ : _ ∧ k_ ≠ gb300))) (fun _ hk => hk.1.2) (.slice Ao64 t313.length co64)) (fun _ hk => hk.1.2) (.slice Ao66 t316.length co66)) (fun _ hk => hk.2) (.slice Ao64 t313.length co64)) (fun _ hk => hk.2) (.slice Ao66 t316.length co66)) (fun _ hk => ⟨hk.1.1.1, ⟨hk.1.1.2.1, ⟨hk.1.1.2.2.1, hk.1.1.2.2.2.1⟩⟩⟩)⟩, ⟨by (with_reducible repeat (first | apply xN_ | apply xD_ | apply xA_)); refine xR_ ?_ NB298_300.out _; refine xR_ ?_ NB298_300.out _; refine xR_ ?_ NB298_320.out _; refine xR_ ?_ NB298_320.out _; (with_reducible repeat (first | apply xN_ | apply xD_ | apply xA_)); exact BK298.out⟩, ⟨by (with_reducible repeat (first | apply xN_ | apply xD_ | apply xA_)); refine xR_ ?_ NB299_300.out _; refine xR_ ?_ NB299_300.out _; refine xR_ ?_ NB299_320.out _; refine xR_ ?_ NB299_320.out _; (with_reducible repeat (first | apply xN_ | apply xD_ | apply xA_)); exact BK299.out⟩, ⟨by (with_reducible repeat (first | apply xN_ | apply xD_ | apply xA_)); refine blk_put (cs := #[.slice Ao64 t313.length co64, .slice Ao59 x301001_1.length co59]) ?_ 1 _ rfl; refine blk_put (cs := #[.slice Ao58 x301000_1.length co58, .slice Ao59 x301001_1.length co59]) ?_ 0 _ rfl; refine xR_ ?_ NB300_320.out _; refine xR_ ?_ NB300_320.out _; (with_reducible repeat (first | apply xN_ | apply xD_ | apply xA_)); exact BK300.out⟩, ⟨qH⟩⟩
          ·rw [if_neg c57] at H
           have c57b0 : (t319 == 0) = false := beq_eq_false_iff_ne.mpr c57
           have c57b1 : (t319 != 0) = true := bne_iff_ne.mpr c57
           simp only [Option.some.injEq, Prod.mk.injEq] at H
           obtain ⟨rfl, rfl, rfl⟩ := H
           have p302 : 0 ≤ (x9_1 : Int) := of_decide_eq_true aS
           have q302 : x9_1 < (l1.length : Int) := of_decide_eq_true aS
           obtain ⟨ad302, e302, hx302_0, hx302_1, hx302_2⟩ := at_T85 HR1.out x9_1 p302 q302
           (try rw [← Nbq21.out] at hx302_0)
           cases e302
           replace hx302_0 := (HB.out.cell (World.block_lt_of_cell? w _ hx302_0)).trans hx302_0
           replace hx302_1 := (HB.out.cell (World.block_lt_of_cell? w _ hx302_1)).trans hx302_1
           replace hx302_2 := (HB.out.cell (World.block_lt_of_cell? w _ hx302_2)).trans hx302_2
           replace p302 := eq_true p302
           replace q302 := eq_true q302
           obtain ⟨Ao75, co75, eo75⟩ := Kd.V_slice HO_301000.out
           subst eo75
           obtain ⟨Ao76, co76, eo76⟩ := Kd.V_slice HO_301001.out
           subst eo76
           try go_wp2
           replace HO_299000 := Aside0.mk (Kd.V_drew HO_299000.out)
           replace HO_299001 := Aside0.mk (Kd.V_drew HO_299001.out)
           replace HO_301000 := Aside0.mk (Kd.V_drew HO_301000.out)
           replace HO_301001 := Aside0.mk (Kd.V_drew HO_301001.out)
           replace BK298 := Aside0.mk (xD_ BK298.out)
           replace BK299 := Aside0.mk (xD_ BK299.out)
           replace BK300 := Aside0.mk (xD_ BK300.out)
           replace HB := Aside0.mk (yD_ HB.out)
           have p311 : 0 ≤ (x9_1 : Int) := of_decide_eq_true aS
           have q311 : x9_1 < (l1.length : Int) := of_decide_eq_true aS
           obtain ⟨ad311, e311, hx311_0, hx311_1, hx311_2⟩ := at_T85 HR1.out x9_1 p311 q311
           have hw311_2 := hx311_2
           have hw311_1 := hx311_1
           (try rw [← Nbq21.out] at hx311_0)
           have hw311_0 := hx311_0
           obtain rfl : ad302 = ad311 := (by injection e311)
           replace hx311_0 := (HB.out.cell (World.block_lt_of_cell? w _ hx311_0)).trans hx311_0
           replace hx311_1 := (HB.out.cell (World.block_lt_of_cell? w _ hx311_1)).trans hx311_1
           replace hx311_2 := (HB.out.cell (World.block_lt_of_cell? w _ hx311_2)).trans hx311_2
           replace p311 := eq_true p311
           replace q311 := eq_true q311
           have p312 : 0 ≤ (x9_1 : Int) := of_decide_eq_true aS
           have q312 : x9_1 < (l1.length : Int) := of_decide_eq_true aS
           obtain ⟨ad312, e312, hx312_0, hx312_1, hx312_2⟩ := at_T85 HR1.out x9_1 p312 q312
           have hw312_2 := hx312_2
           have hw312_1 := hx312_1
           (try rw [← Nbq21.out] at hx312_0)
           have hw312_0 := hx312_0
           obtain rfl : ad302 = ad312 := (by injection e312)
           replace hx312_0 := (HB.out.cell (World.block_lt_of_cell? w _ hx312_0)).trans hx312_0
           replace hx312_1 := (HB.out.cell (World.block_lt_of_cell? w _ hx312_1)).trans hx312_1
           replace hx312_2 := (HB.out.cell (World.block_lt_of_cell? w _ hx312_2)).trans hx312_2
           replace p312 := eq_true p312
           replace q312 := eq_true q312
           refine start_ (n := 18) (S := fun w' => w'.cell? ⟨gb300, 0, none⟩ = some (.slice Ao75 x301000_1.length co75) ∧ w'.cell? ⟨gb300, 1, none⟩ = some (.slice Ao76 x301001_1.length co76) ∧ w'.cell? (ad302.add ((x9_1).toNat * 3)) = some (.bool (false)) ∧ w'.cell? ⟨(ad302.add ((x9_1).toNat * 3)).block, (ad302.add ((x9_1).toNat * 3)).off + 1, none⟩ = some (.int .i64 ((rd_T85 l1 x9_1).f1)) ∧ w'.cell? ⟨(ad302.add ((x9_1).toNat * 3)).block, (ad302.add ((x9_1).toNat * 3)).off + 2, none⟩ = some (.string ((rd_T85 l1 x9_1).f2)) ∧ w'.cell? (ad302.add ((x9_1).toNat * 3)) = some (.bool (false)) ∧ w'.cell? ⟨(ad302.add ((x9_1).toNat * 3)).block, (ad302.add ((x9_1).toNat * 3)).off + 1, none⟩ = some (.int .i64 ((rd_T85 l1 x9_1).f1)) ∧ w'.cell? ⟨(ad302.add ((x9_1).toNat * 3)).block, (ad302.add ((x9_1).toNat * 3)).off + 2, none⟩ = some (.string ((rd_T85 l1 x9_1).f2))) (ds := []) #[F_,F_,F_,F_,F_,F_,F_,F_,F_,F_,F_,F_,F_,F_,F_,F_,F_,F_] (by kernel_rfl) rfl rfl ⟨c0_ BK300, c1_ BK300, ((HB.out.cell (World.block_lt_of_cell? w _ hw311_0)).trans hw311_0), ((HB.out.cell (World.block_lt_of_cell? w _ hw311_1)).trans hw311_1), ((HB.out.cell (World.block_lt_of_cell? w _ hw311_2)).trans hw311_2), ((HB.out.cell (World.block_lt_of_cell? w _ hw312_0)).trans hw312_0), ((HB.out.cell (World.block_lt_of_cell? w _ hw312_1)).trans hw312_1), ((HB.out.cell (World.block_lt_of_cell? w _ hw312_2)).trans hw312_2)⟩ (fun hHeld => ?_); refine with_tabW armadaref01_Run.tab11 armadaref01_Run.bits11 (fun HT_ HW_ => ?_)
           generalize wc.drew = w77 at HO_299000 HO_299001 HO_301000 HO_301001 BK298 BK299 BK300 HB hx311_0 hx311_1 hx311_2 hx312_0 hx312_1 hx312_2 hHeld ⊢
           refine pU 1 (some 44) #[F_,T_,F_,F_,F_,F_,F_,F_,F_,F_,F_,F_,F_,F_,F_,F_,F_,F_] HT_ ?_
           refine pU 2 (some 45) #[F_,T_,T_,F_,F_,F_,F_,F_,F_,F_,F_,F_,F_,F_,F_,F_,F_,F_] HT_ ?_
           refine pU 3 (some 46) #[F_,T_,T_,T_,F_,F_,F_,F_,F_,F_,F_,F_,F_,F_,F_,F_,F_,F_] HT_ ?_
           refine pU 4 (some 47) #[F_,T_,T_,T_,T_,F_,F_,F_,F_,F_,F_,F_,F_,F_,F_,F_,F_,F_] HT_ ?_
           refine pU 6 (some 49) #[F_,T_,T_,T_,T_,F_,T_,F_,F_,F_,F_,F_,F_,F_,F_,F_,F_,F_] HT_ ?_
           refine pU 7 (some 50) #[F_,T_,T_,T_,T_,F_,T_,T_,F_,F_,F_,F_,F_,F_,F_,F_,F_,F_] HT_ ?_
           refine pU 8 (some 51) #[F_,T_,T_,T_,T_,F_,T_,T_,T_,F_,F_,F_,F_,F_,F_,F_,F_,F_] HT_ ?_
           refine pU 9 (some 52) #[F_,T_,T_,T_,T_,F_,T_,T_,T_,T_,F_,F_,F_,F_,F_,F_,F_,F_] HT_ ?_
           refine tK 0 (some 43) #[T_,T_,T_,T_,T_,F_,T_,T_,T_,T_,F_,F_,F_,F_,F_,F_,F_,F_] HT_ HW_ hHeld ?_
           refine tK 5 (some 48) #[T_,T_,T_,T_,T_,T_,T_,T_,T_,T_,F_,F_,F_,F_,F_,F_,F_,F_] HT_ HW_ hHeld ?_
           refine tK 10 (some 53) #[T_,T_,T_,T_,T_,T_,T_,T_,T_,T_,T_,F_,F_,F_,F_,F_,F_,F_] HT_ HW_ hHeld ?_
           refine join_ (σ := Value × Value × Nat) 2 #[T_,T_,T_,T_,T_,T_,T_,T_,T_,T_,T_,T_,T_,T_,T_,T_,F_,F_] (fun s_ => [(54, .tuple #[.agg #[s_.1, s_.2.1], .int .i64 t319]), (13, .pointer (some ⟨s_.2.2, 0, none⟩)), (42, .tuple #[.agg #[s_.1, s_.2.1], .int .i64 t319]), (55, .agg #[s_.1, s_.2.1]), (56, .int .i64 t319)]) (fun s_ w' => (w'.cell? ⟨gb300, 0, none⟩ = some (.slice Ao75 x301000_1.length co75) ∧ w'.cell? ⟨gb300, 1, none⟩ = some (.slice Ao76 x301001_1.length co76) ∧ w'.cell? (ad302.add ((x9_1).toNat * 3)) = some (.bool (false)) ∧ w'.cell? ⟨(ad302.add ((x9_1).toNat * 3)).block, (ad302.add ((x9_1).toNat * 3)).off + 1, none⟩ = some (.int .i64 ((rd_T85 l1 x9_1).f1)) ∧ w'.cell? ⟨(ad302.add ((x9_1).toNat * 3)).block, (ad302.add ((x9_1).toNat * 3)).off + 2, none⟩ = some (.string ((rd_T85 l1 x9_1).f2)) ∧ w'.cell? (ad302.add ((x9_1).toNat * 3)) = some (.bool (false)) ∧ w'.cell? ⟨(ad302.add ((x9_1).toNat * 3)).block, (ad302.add ((x9_1).toNat * 3)).off + 1, none⟩ = some (.int .i64 ((rd_T85 l1 x9_1).f1)) ∧ w'.cell? ⟨(ad302.add ((x9_1).toNat * 3)).block, (ad302.add ((x9_1).toNat * 3)).off + 2, none⟩ = some (.string ((rd_T85 l1 x9_1).f2))) ∧ (Kd.V Kd.string 9 w' w.heap.size (fun k_ => ((P0_0_ k_ ∨ P0_1_ k_) ∨ w.heap.size ≤ k_) ∧ k_ ≠ gb298 ∧ k_ ≠ gb299 ∧ k_ ≠ gb300 ∧ k_ ≠ s_.2.2) s_.1 t313) ∧ (Kd.V k29 29 w' w.heap.size (fun k_ => ((P0_0_ k_ ∨ P0_1_ k_) ∨ w.heap.size ≤ k_) ∧ k_ ≠ gb298 ∧ k_ ≠ gb299 ∧ k_ ≠ gb300 ∧ k_ ≠ s_.2.2) s_.2.1 t316) ∧ (Kd.V Kd.string 9 w' w.heap.size (fun k_ => ((P0_0_ k_ ∨ P0_1_ k_) ∨ w.heap.size ≤ k_) ∧ k_ ≠ gb298 ∧ k_ ≠ gb299 ∧ k_ ≠ gb300 ∧ k_ ≠ s_.2.2) (.slice A0_0 l0_0.length c0_0) l0_0) ∧ (Kd.V k29 29 w' w.heap.size (fun k_ => ((P0_0_ k_ ∨ P0_1_ k_) ∨ w.heap.size ≤ k_) ∧ k_ ≠ gb298 ∧ k_ ≠ gb299 ∧ k_ ≠ gb300 ∧ k_ ≠ s_.2.2) (.slice A0_1 l0_1.length c0_1) l0_1) ∧ (Kd.V Kd.string 9 w' w.heap.size (fun k_ => ((P0_0_ k_ ∨ P0_1_ k_) ∨ w.heap.size ≤ k_) ∧ k_ ≠ gb298 ∧ k_ ≠ gb299 ∧ k_ ≠ gb300 ∧ k_ ≠ s_.2.2) (.slice Ao75 x301000_1.length co75) x301000_1) ∧ (Kd.V k29 29 w' w.heap.size (fun k_ => ((P0_0_ k_ ∨ P0_1_ k_) ∨ w.heap.size ≤ k_) ∧ k_ ≠ gb298 ∧ k_ ≠ gb299 ∧ k_ ≠ gb300 ∧ k_ ≠ s_.2.2) (.slice Ao76 x301001_1.length co76) x301001_1) ∧ (w'.heap[gb298]? = some (.cells #[.slice A0_0 l0_0.length c0_0, .slice A0_1 l0_1.length c0_1] 25 (0, 0))) ∧ (w'.heap[gb299]? = some (.cells #[.slice none 0 0, .slice none 0 0] 25 (0, 0))) ∧ (w'.heap[gb300]? = some (.cells #[.slice Ao75 x301000_1.length co75, .slice Ao76 x301001_1.length co76] 25 (0, 0))) ∧ (w'.heap[s_.2.2]? = some (.cells #[.slice none 0 0, .slice none 0 0] 25 (0, 0))) ∧ (w.heap.size ≤ s_.2.2) ∧ (w.heap.size ≤ s_.2.2) ∧ (gb298 ≠ s_.2.2) ∧ (s_.2.2 ≠ gb298) ∧ (gb299 ≠ s_.2.2) ∧ (s_.2.2 ≠ gb299) ∧ (gb300 ≠ s_.2.2) ∧ (s_.2.2 ≠ gb300) ∧ (Below w.heap.size w w')) ?_ ?_
           rotate_left
           ·intro hCont
            refine two_ (i := 11) (j := 15) (Ni := some 54) (Nj := some 13) #[T_,T_,T_,T_,T_,T_,T_,T_,T_,T_,T_,T_,F_,F_,F_,F_,F_,F_] #[T_,T_,T_,T_,T_,T_,T_,T_,T_,T_,T_,F_,F_,F_,F_,T_,F_,F_] rfl rfl rfl rfl (two_of HT_.out (by kernel_rfl)) (by decide) (by decide) (fun K hK => ?_) (fun K hK => ?_)
            ·skip
             refine gO Try.func50 #[.agg #[.slice Ao75 x301000_1.length co75, .slice Ao76 x301001_1.length co76], .int .i64 ((rd_T85 l1 x9_1).f1), .string ((rd_T85 l1 x9_1).f2)] ?_
             with_reducible refine (armadaref01_Put.calls kj15 (fun k_ => (((P0_0_ k_ ∨ P0_1_ k_) ∨ w.heap.size ≤ k_) ∧ (k_ ≠ gb298 ∧ (k_ ≠ gb299 ∧ k_ ≠ gb300)))) _ _ x301000_1 (fun k_ => (((P0_0_ k_ ∨ P0_1_ k_) ∨ w.heap.size ≤ k_) ∧ (k_ ≠ gb298 ∧ (k_ ≠ gb299 ∧ k_ ≠ gb300)))) _ _ x301001_1 ((rd_T85 l1 x9_1).f1) ((rd_T85 l1 x9_1).f2) t313 t316 t319 _ ?side1 ?side2 A56.out).mono ?_
             (case side1 => exact HO_301000.out)
             (case side2 => exact HO_301001.out)
             rintro e w78 ⟨v314, v317, rfl, ho0, ho1, hb⟩
             refine ⟨_, rfl, ?_⟩
             have hz_ := zqA HB hb
             replace hb := below_step hz_ hb
             replace HO_299000 := zV HO_299000 hb
             replace HO_299001 := zV HO_299001 hb
             replace HO_301000 := zV HO_301000 hb
             replace HO_301001 := zV HO_301001 hb
             have HO315 := Aside0.mk (Kd.V_lower (Kd.V_mono (ok' := fun k_ => ((P0_0_ k_ ∨ P0_1_ k_) ∨ w.heap.size ≤ k_) ∧ k_ ≠ gb298 ∧ k_ ≠ gb299 ∧ k_ ≠ gb300) ho0 (fun k_ hk_ => ⟨Or.elim hk_ (fun hs_ => Or.elim hs_ (fun hs_ => hs_.1) (fun hs_ => hs_.1)) (fun hn_ => (.inr (Nat.le_trans (zs HB hz_) hn_))), Or.elim hk_ (fun hs_ => Or.elim hs_ (fun hs_ => hs_.2.1) (fun hs_ => hs_.2.1)) (zf BK298 hz_ k_), Or.elim hk_ (fun hs_ => Or.elim hs_ (fun hs_ => hs_.2.2.1) (fun hs_ => hs_.2.2.1)) (zf BK299 hz_ k_), Or.elim hk_ (fun hs_ => Or.elim hs_ (fun hs_ => hs_.2.2.2) (fun hs_ => hs_.2.2.2)) (zf BK300 hz_ k_)⟩)) (zs HB hz_))
             have HO318 := Aside0.mk (Kd.V_lower (Kd.V_mono (ok' := fun k_ => ((P0_0_ k_ ∨ P0_1_ k_) ∨ w.heap.size ≤ k_) ∧ k_ ≠ gb298 ∧ k_ ≠ gb299 ∧ k_ ≠ gb300) ho1 (fun k_ hk_ => ⟨Or.elim hk_ (fun hs_ => Or.elim hs_ (fun hs_ => hs_.1) (fun hs_ => hs_.1)) (fun hn_ => (.inr (Nat.le_trans (zs HB hz_) hn_))), Or.elim hk_ (fun hs_ => Or.elim hs_ (fun hs_ => hs_.2.1) (fun hs_ => hs_.2.1)) (zf BK298 hz_ k_), Or.elim hk_ (fun hs_ => Or.elim hs_ (fun hs_ => hs_.2.2.1) (fun hs_ => hs_.2.2.1)) (zf BK299 hz_ k_), Or.elim hk_ (fun hs_ => Or.elim hs_ (fun hs_ => hs_.2.2.2) (fun hs_ => hs_.2.2.2)) (zf BK300 hz_ k_)⟩)) (zs HB hz_))
             replace BK298 := zB BK298 hb
             replace BK299 := zB BK299 hb
             replace BK300 := zB BK300 hb
             replace HB := zH HB hb
             clear hz_
             (try clear hb)
             (try clear hb2)
             (try clear hk)
             (try clear hi)
             (try clear ho0)
             (try clear ho1)
             refine hK.out _ _ ⟨c0_ BK300, c1_ BK300, ((HB.out.cell (World.block_lt_of_cell? w _ hw311_0)).trans hw311_0), ((HB.out.cell (World.block_lt_of_cell? w _ hw311_1)).trans hw311_1), ((HB.out.cell (World.block_lt_of_cell? w _ hw311_2)).trans hw311_2), ((HB.out.cell (World.block_lt_of_cell? w _ hw312_0)).trans hw312_0), ((HB.out.cell (World.block_lt_of_cell? w _ hw312_1)).trans hw312_1), ((HB.out.cell (World.block_lt_of_cell? w _ hw312_2)).trans hw312_2)⟩ (fun hHeld => ?_)
             clear hK K
             refine nS (some 54) ?_
             refine pU 12 (some 42) #[T_,T_,T_,T_,T_,T_,T_,T_,T_,T_,T_,T_,T_,F_,F_,F_,F_,F_] HT_ ?_
             refine pU 13 (some 55) #[T_,T_,T_,T_,T_,T_,T_,T_,T_,T_,T_,T_,T_,T_,F_,F_,F_,F_] HT_ ?_
             refine pU 14 (some 56) #[T_,T_,T_,T_,T_,T_,T_,T_,T_,T_,T_,T_,T_,T_,T_,F_,F_,F_] HT_ ?_
             refine oN 15 (some 13) #[T_,T_,T_,T_,T_,T_,T_,T_,T_,T_,T_,T_,T_,T_,T_,T_,F_,F_] HT_ (fun K hK => ?_)
             refine box_step ?hg (N := 13) ?hd (cs := #[.slice none 0 0, .slice none 0 0]) (t := 25) ?hr ?_; (case hd => rfl); (case hg => rfl); (case hr => first | (go_simp; done) | (go_simp; rfl))
             intro gb320 hg w79 hbox hb
             have hz_ := zqA HB hb
             replace hb := below_step hz_ hb
             replace HO_299000 := zE HO_299000 hz_ hg hb
             replace HO_299001 := zE HO_299001 hz_ hg hb
             replace HO_301000 := zE HO_301000 hz_ hg hb
             replace HO_301001 := zE HO_301001 hz_ hg hb
             replace HO315 := zE HO315 hz_ hg hb
             replace HO318 := zE HO318 hz_ hg hb
             have BK320 := Aside0.mk hbox
             have GW320 := zG HB hz_ hg
             have GE320 := zG HB hz_ hg
             have NB298_320 := zN BK298 hz_ hg
             have NB320_298 := zM BK298 hz_ hg
             have NB299_320 := zN BK299 hz_ hg
             have NB320_299 := zM BK299 hz_ hg
             have NB300_320 := zN BK300 hz_ hg
             have NB320_300 := zM BK300 hz_ hg
             replace BK298 := zB BK298 hb
             replace BK299 := zB BK299 hb
             replace BK300 := zB BK300 hb
             replace HB := zH HB hb
             clear hz_
             clear hb hbox hg
             refine hK.out _ _ ⟨c0_ BK300, c1_ BK300, ((HB.out.cell (World.block_lt_of_cell? w _ hw311_0)).trans hw311_0), ((HB.out.cell (World.block_lt_of_cell? w _ hw311_1)).trans hw311_1), ((HB.out.cell (World.block_lt_of_cell? w _ hw311_2)).trans hw311_2), ((HB.out.cell (World.block_lt_of_cell? w _ hw312_0)).trans hw312_0), ((HB.out.cell (World.block_lt_of_cell? w _ hw312_1)).trans hw312_1), ((HB.out.cell (World.block_lt_of_cell? w _ hw312_2)).trans hw312_2)⟩ (fun hHeld => ?_)
             clear hK K
             refine nS (some 13) ?_
             exact norm_ (by simp only [putAll, Act.put, List.setIfInBounds_toArray, List.set_cons_zero, List.set_cons_succ]) (hCont (v314, v317, gb320) _ ⟨hHeld, (qV (Kd.V_mono HO315.out (fun _ hk => ⟨hk.1.1, ⟨hk.1.2.1, ⟨hk.1.2.2.1, ⟨hk.1.2.2.2, hk.2⟩⟩⟩⟩))), (qV (Kd.V_mono HO318.out (fun _ hk => ⟨hk.1.1, ⟨hk.1.2.1, ⟨hk.1.2.2.1, ⟨hk.1.2.2.2, hk.2⟩⟩⟩⟩))), (qV (Kd.V_mono HO_299000.out (fun _ hk => ⟨hk.1.1, ⟨hk.1.2.1, ⟨hk.1.2.2.1, ⟨hk.1.2.2.2, hk.2⟩⟩⟩⟩))), (qV (Kd.V_mono HO_299001.out (fun _ hk => ⟨hk.1.1, ⟨hk.1.2.1, ⟨hk.1.2.2.1, ⟨hk.1.2.2.2, hk.2⟩⟩⟩⟩))), (qV (Kd.V_mono HO_301000.out (fun _ hk => ⟨hk.1.1, ⟨hk.1.2.1, ⟨hk.1.2.2.1, ⟨hk.1.2.2.2, hk.2⟩⟩⟩⟩))), (qV (Kd.V_mono HO_301001.out (fun _ hk => ⟨hk.1.1, ⟨hk.1.2.1, ⟨hk.1.2.2.1, ⟨hk.1.2.2.2, hk.2⟩⟩⟩⟩))), (qB BK298), (qB BK299), (qB BK300), (qB BK320), GW320.out, GE320.out, NB298_320.out, NB320_298.out, NB299_320.out, NB320_299.out, NB300_320.out, NB320_300.out, qH⟩)
            ·skip
             refine box_step ?hg (N := 13) ?hd (cs := #[.slice none 0 0, .slice none 0 0]) (t := 25) ?hr ?_; (case hd => rfl); (case hg => rfl); (case hr => first | (go_simp; done) | (go_simp; rfl))
             intro gb320 hg w78 hbox hb
             have hz_ := zqA HB hb
             replace hb := below_step hz_ hb
             replace HO_299000 := zE HO_299000 hz_ hg hb
             replace HO_299001 := zE HO_299001 hz_ hg hb
             replace HO_301000 := zE HO_301000 hz_ hg hb
             replace HO_301001 := zE HO_301001 hz_ hg hb
             have BK320 := Aside0.mk hbox
             have GW320 := zG HB hz_ hg
             have GE320 := zG HB hz_ hg
             have NB298_320 := zN BK298 hz_ hg
             have NB320_298 := zM BK298 hz_ hg
             have NB299_320 := zN BK299 hz_ hg
             have NB320_299 := zM BK299 hz_ hg
             have NB300_320 := zN BK300 hz_ hg
             have NB320_300 := zM BK300 hz_ hg
             replace BK298 := zB BK298 hb
             replace BK299 := zB BK299 hb
             replace BK300 := zB BK300 hb
             replace HB := zH HB hb
             clear hz_
             clear hb hbox hg
             refine hK.out _ _ ⟨c0_ BK300, c1_ BK300, ((HB.out.cell (World.block_lt_of_cell? w _ hw311_0)).trans hw311_0), ((HB.out.cell (World.block_lt_of_cell? w _ hw311_1)).trans hw311_1), ((HB.out.cell (World.block_lt_of_cell? w _ hw311_2)).trans hw311_2), ((HB.out.cell (World.block_lt_of_cell? w _ hw312_0)).trans hw312_0), ((HB.out.cell (World.block_lt_of_cell? w _ hw312_1)).trans hw312_1), ((HB.out.cell (World.block_lt_of_cell? w _ hw312_2)).trans hw312_2)⟩ (fun hHeld => ?_)
             clear hK K
             refine nS (some 13) ?_
             refine oN 11 (some 54) #[T_,T_,T_,T_,T_,T_,T_,T_,T_,T_,T_,T_,F_,F_,F_,T_,F_,F_] HT_ (fun K hK => ?_)
             refine gO Try.func50 #[.agg #[.slice Ao75 x301000_1.length co75, .slice Ao76 x301001_1.length co76], .int .i64 ((rd_T85 l1 x9_1).f1), .string ((rd_T85 l1 x9_1).f2)] ?_
             with_reducible refine (armadaref01_Put.calls kj15 (fun k_ => ((((P0_0_ k_ ∨ P0_1_ k_) ∨ w.heap.size ≤ k_) ∧ (k_ ≠ gb298 ∧ (k_ ≠ gb299 ∧ k_ ≠ gb300))) ∧ k_ ≠ gb320)) _ _ x301000_1 (fun k_ => ((((P0_0_ k_ ∨ P0_1_ k_) ∨ w.heap.size ≤ k_) ∧ (k_ ≠ gb298 ∧ (k_ ≠ gb299 ∧ k_ ≠ gb300))) ∧ k_ ≠ gb320)) _ _ x301001_1 ((rd_T85 l1 x9_1).f1) ((rd_T85 l1 x9_1).f2) t313 t316 t319 _ ?side1 ?side2 A56.out).mono ?_
             (case side1 => exact HO_301000.out)
             (case side2 => exact HO_301001.out)
             rintro e w79 ⟨v314, v317, rfl, ho0, ho1, hb⟩
             refine ⟨_, rfl, ?_⟩
             have hz_ := zqA HB hb
             replace hb := below_step hz_ hb
             replace HO_299000 := zV HO_299000 hb
             replace HO_299001 := zV HO_299001 hb
             replace HO_301000 := zV HO_301000 hb
             replace HO_301001 := zV HO_301001 hb
             have HO315 := Aside0.mk (Kd.V_lower (Kd.V_mono (ok' := fun k_ => ((P0_0_ k_ ∨ P0_1_ k_) ∨ w.heap.size ≤ k_) ∧ k_ ≠ gb298 ∧ k_ ≠ gb299 ∧ k_ ≠ gb300 ∧ k_ ≠ gb320) ho0 (fun k_ hk_ => ⟨Or.elim hk_ (fun hs_ => Or.elim hs_ (fun hs_ => hs_.1.1) (fun hs_ => hs_.1.1)) (fun hn_ => (.inr (Nat.le_trans (zs HB hz_) hn_))), Or.elim hk_ (fun hs_ => Or.elim hs_ (fun hs_ => hs_.1.2.1) (fun hs_ => hs_.1.2.1)) (zf BK298 hz_ k_), Or.elim hk_ (fun hs_ => Or.elim hs_ (fun hs_ => hs_.1.2.2.1) (fun hs_ => hs_.1.2.2.1)) (zf BK299 hz_ k_), Or.elim hk_ (fun hs_ => Or.elim hs_ (fun hs_ => hs_.1.2.2.2) (fun hs_ => hs_.1.2.2.2)) (zf BK300 hz_ k_), Or.elim hk_ (fun hs_ => Or.elim hs_ (fun hs_ => hs_.2) (fun hs_ => hs_.2)) (zf BK320 hz_ k_)⟩)) (zs HB hz_))
             have HO318 := Aside0.mk (Kd.V_lower (Kd.V_mono (ok' := fun k_ => ((P0_0_ k_ ∨ P0_1_ k_) ∨ w.heap.size ≤ k_) ∧ k_ ≠ gb298 ∧ k_ ≠ gb299 ∧ k_ ≠ gb300 ∧ k_ ≠ gb320) ho1 (fun k_ hk_ => ⟨Or.elim hk_ (fun hs_ => Or.elim hs_ (fun hs_ => hs_.1.1) (fun hs_ => hs_.1.1)) (fun hn_ => (.inr (Nat.le_trans (zs HB hz_) hn_))), Or.elim hk_ (fun hs_ => Or.elim hs_ (fun hs_ => hs_.1.2.1) (fun hs_ => hs_.1.2.1)) (zf BK298 hz_ k_), Or.elim hk_ (fun hs_ => Or.elim hs_ (fun hs_ => hs_.1.2.2.1) (fun hs_ => hs_.1.2.2.1)) (zf BK299 hz_ k_), Or.elim hk_ (fun hs_ => Or.elim hs_ (fun hs_ => hs_.1.2.2.2) (fun hs_ => hs_.1.2.2.2)) (zf BK300 hz_ k_), Or.elim hk_ (fun hs_ => Or.elim hs_ (fun hs_ => hs_.2) (fun hs_ => hs_.2)) (zf BK320 hz_ k_)⟩)) (zs HB hz_))
             replace BK298 := zB BK298 hb
             replace BK299 := zB BK299 hb
             replace BK300 := zB BK300 hb
             replace BK320 := zB BK320 hb
             replace HB := zH HB hb
             clear hz_
             (try clear hb)
             (try clear hb2)
             (try clear hk)
             (try clear hi)
             (try clear ho0)
             (try clear ho1)
             refine hK.out _ _ ⟨c0_ BK300, c1_ BK300, ((HB.out.cell (World.block_lt_of_cell? w _ hw311_0)).trans hw311_0), ((HB.out.cell (World.block_lt_of_cell? w _ hw311_1)).trans hw311_1), ((HB.out.cell (World.block_lt_of_cell? w _ hw311_2)).trans hw311_2), ((HB.out.cell (World.block_lt_of_cell? w _ hw312_0)).trans hw312_0), ((HB.out.cell (World.block_lt_of_cell? w _ hw312_1)).trans hw312_1), ((HB.out.cell (World.block_lt_of_cell? w _ hw312_2)).trans hw312_2)⟩ (fun hHeld => ?_)
             clear hK K
             refine nS (some 54) ?_
             refine pU 12 (some 42) #[T_,T_,T_,T_,T_,T_,T_,T_,T_,T_,T_,T_,T_,F_,F_,T_,F_,F_] HT_ ?_
             refine pU 13 (some 55) #[T_,T_,T_,T_,T_,T_,T_,T_,T_,T_,T_,T_,T_,T_,F_,T_,F_,F_] HT_ ?_
             refine pU 14 (some 56) #[T_,T_,T_,T_,T_,T_,T_,T_,T_,T_,T_,T_,T_,T_,T_,T_,F_,F_] HT_ ?_
             exact norm_ (by simp only [putAll, Act.put, List.setIfInBounds_toArray, List.set_cons_zero, List.set_cons_succ]) (hCont (v314, v317, gb320) _ ⟨hHeld, (qV HO315.out), (qV HO318.out), (qV (Kd.V_mono HO_299000.out (fun _ hk => ⟨hk.1.1, ⟨hk.1.2.1, ⟨hk.1.2.2.1, ⟨hk.1.2.2.2, hk.2⟩⟩⟩⟩))), (qV (Kd.V_mono HO_299001.out (fun _ hk => ⟨hk.1.1, ⟨hk.1.2.1, ⟨hk.1.2.2.1, ⟨hk.1.2.2.2, hk.2⟩⟩⟩⟩))), (qV (Kd.V_mono HO_301000.out (fun _ hk => ⟨hk.1.1, ⟨hk.1.2.1, ⟨hk.1.2.2.1, ⟨hk.1.2.2.2, hk.2⟩⟩⟩⟩))), (qV (Kd.V_mono HO_301001.out (fun _ hk => ⟨hk.1.1, ⟨hk.1.2.1, ⟨hk.1.2.2.1, ⟨hk.1.2.2.2, hk.2⟩⟩⟩⟩))), (qB BK298), (qB BK299), (qB BK300), (qB BK320), GW320.out, GE320.out, NB298_320.out, NB320_298.out, NB299_320.out, NB320_299.out, NB300_320.out, NB320_300.out, qH⟩)
           rintro ⟨v314, v317, gb320⟩ w80 ⟨hS_, h0_, h1_, h2_, h3_, h4_, h5_, h6_, h7_, h8_, h9_, h10_, h11_, h12_, h13_, h14_, h15_, h16_, h17_, h18_⟩
           have n0_ : Aside0 (Kd.V Kd.string 9 w80 w.heap.size (fun k_ => ((P0_0_ k_ ∨ P0_1_ k_) ∨ w.heap.size ≤ k_) ∧ k_ ≠ gb298 ∧ k_ ≠ gb299 ∧ k_ ≠ gb300 ∧ k_ ≠ gb320) v314 t313) := ⟨h0_⟩
           have n1_ : Aside0 (Kd.V k29 29 w80 w.heap.size (fun k_ => ((P0_0_ k_ ∨ P0_1_ k_) ∨ w.heap.size ≤ k_) ∧ k_ ≠ gb298 ∧ k_ ≠ gb299 ∧ k_ ≠ gb300 ∧ k_ ≠ gb320) v317 t316) := ⟨h1_⟩
           have n2_ : Aside0 (Kd.V Kd.string 9 w80 w.heap.size (fun k_ => ((P0_0_ k_ ∨ P0_1_ k_) ∨ w.heap.size ≤ k_) ∧ k_ ≠ gb298 ∧ k_ ≠ gb299 ∧ k_ ≠ gb300 ∧ k_ ≠ gb320) (.slice A0_0 l0_0.length c0_0) l0_0) := ⟨h2_⟩
           have n3_ : Aside0 (Kd.V k29 29 w80 w.heap.size (fun k_ => ((P0_0_ k_ ∨ P0_1_ k_) ∨ w.heap.size ≤ k_) ∧ k_ ≠ gb298 ∧ k_ ≠ gb299 ∧ k_ ≠ gb300 ∧ k_ ≠ gb320) (.slice A0_1 l0_1.length c0_1) l0_1) := ⟨h3_⟩
           have n4_ : Aside0 (Kd.V Kd.string 9 w80 w.heap.size (fun k_ => ((P0_0_ k_ ∨ P0_1_ k_) ∨ w.heap.size ≤ k_) ∧ k_ ≠ gb298 ∧ k_ ≠ gb299 ∧ k_ ≠ gb300 ∧ k_ ≠ gb320) (.slice Ao75 x301000_1.length co75) x301000_1) := ⟨h4_⟩
           have n5_ : Aside0 (Kd.V k29 29 w80 w.heap.size (fun k_ => ((P0_0_ k_ ∨ P0_1_ k_) ∨ w.heap.size ≤ k_) ∧ k_ ≠ gb298 ∧ k_ ≠ gb299 ∧ k_ ≠ gb300 ∧ k_ ≠ gb320) (.slice Ao76 x301001_1.length co76) x301001_1) := ⟨h5_⟩
           have n6_ : Aside0 (w80.heap[gb298]? = some (.cells #[.slice A0_0 l0_0.length c0_0, .slice A0_1 l0_1.length c0_1] 25 (0, 0))) := ⟨h6_⟩
           have n7_ : Aside0 (w80.heap[gb299]? = some (.cells #[.slice none 0 0, .slice none 0 0] 25 (0, 0))) := ⟨h7_⟩
           have n8_ : Aside0 (w80.heap[gb300]? = some (.cells #[.slice Ao75 x301000_1.length co75, .slice Ao76 x301001_1.length co76] 25 (0, 0))) := ⟨h8_⟩
           have n9_ : Aside0 (w80.heap[gb320]? = some (.cells #[.slice none 0 0, .slice none 0 0] 25 (0, 0))) := ⟨h9_⟩
           have n10_ : Aside0 (w.heap.size ≤ gb320) := ⟨h10_⟩
           have n11_ : Aside0 (w.heap.size ≤ gb320) := ⟨h11_⟩
           have n12_ : Aside0 (gb298 ≠ gb320) := ⟨h12_⟩
           have n13_ : Aside0 (gb320 ≠ gb298) := ⟨h13_⟩
           have n14_ : Aside0 (gb299 ≠ gb320) := ⟨h14_⟩
           have n15_ : Aside0 (gb320 ≠ gb299) := ⟨h15_⟩
           have n16_ : Aside0 (gb300 ≠ gb320) := ⟨h16_⟩
           have n17_ : Aside0 (gb320 ≠ gb300) := ⟨h17_⟩
           have n18_ : Aside0 (Below w.heap.size w w80) := ⟨h18_⟩
           clear HO_299000
           clear HO_299001
           clear HO_301000
           clear HO_301001
           clear BK298
           clear BK299
           clear BK300
           clear HB
           clear h0_ h1_ h2_ h3_ h4_ h5_ h6_ h7_ h8_ h9_ h10_ h11_ h12_ h13_ h14_ h15_ h16_ h17_ h18_
           have HO315 := n0_
           have HO318 := n1_
           have HO_299000 := n2_
           have HO_299001 := n3_
           have HO_301000 := n4_
           have HO_301001 := n5_
           have BK298 := n6_
           have BK299 := n7_
           have BK300 := n8_
           have BK320 := n9_
           have GW320 := n10_
           have GE320 := n11_
           have NB298_320 := n12_
           have NB320_298 := n13_
           have NB299_320 := n14_
           have NB320_299 := n15_
           have NB300_320 := n16_
           have NB320_300 := n17_
           have HB := n18_
           clear n0_ n1_ n2_ n3_ n4_ n5_ n6_ n7_ n8_ n9_ n10_ n11_ n12_ n13_ n14_ n15_ n16_ n17_ n18_
           have hHeld : w80.cell? ⟨gb300, 0, none⟩ = some (.slice Ao75 x301000_1.length co75) ∧ w80.cell? ⟨gb300, 1, none⟩ = some (.slice Ao76 x301001_1.length co76) ∧ w80.cell? (ad302.add ((x9_1).toNat * 3)) = some (.bool (false)) ∧ w80.cell? ⟨(ad302.add ((x9_1).toNat * 3)).block, (ad302.add ((x9_1).toNat * 3)).off + 1, none⟩ = some (.int .i64 ((rd_T85 l1 x9_1).f1)) ∧ w80.cell? ⟨(ad302.add ((x9_1).toNat * 3)).block, (ad302.add ((x9_1).toNat * 3)).off + 2, none⟩ = some (.string ((rd_T85 l1 x9_1).f2)) ∧ w80.cell? (ad302.add ((x9_1).toNat * 3)) = some (.bool (false)) ∧ w80.cell? ⟨(ad302.add ((x9_1).toNat * 3)).block, (ad302.add ((x9_1).toNat * 3)).off + 1, none⟩ = some (.int .i64 ((rd_T85 l1 x9_1).f1)) ∧ w80.cell? ⟨(ad302.add ((x9_1).toNat * 3)).block, (ad302.add ((x9_1).toNat * 3)).off + 2, none⟩ = some (.string ((rd_T85 l1 x9_1).f2)) := hS_
           obtain ⟨Ao81, co81, eo81⟩ := Kd.V_slice HO315.out
           (first | subst eo81 | (injection eo81 with f1_ f2_ f3_; have f4_ := f1_.symm; have f5_ := f3_.symm; clear f1_ f2_ f3_; subst f4_; subst f5_))
           obtain ⟨Ao83, co83, eo83⟩ := Kd.V_slice HO318.out
           (first | subst eo83 | (injection eo83 with f1_ f2_ f3_; have f4_ := f1_.symm; have f5_ := f3_.symm; clear f1_ f2_ f3_; subst f4_; subst f5_))
           refine nA ?_
           refine oN 16 (none) #[T_,T_,T_,T_,T_,T_,T_,T_,T_,T_,T_,T_,T_,T_,T_,T_,T_,F_] HT_ (fun K hK => ?_)
           have hs82 : w80.cell? ⟨gb320, 0, none⟩ = some (.slice none 0 0) := c0_ BK320
           have hfs82 := xF_ BK320.out 0
           have hns82_0 := NB298_320.out
           have hns82_1 := NB299_320.out
           have hns82_2 := NB300_320.out
           have hms82_0 := NB320_298.out
           have hms82_1 := NB320_299.out
           have hms82_2 := NB320_300.out
           have hs84 : w80.cell? ⟨gb320, 1, none⟩ = some (.slice none 0 0) := c1_ BK320
           have hfs84 := xF_ BK320.out 1
           have hns84_0 := NB298_320.out
           have hns84_1 := NB299_320.out
           have hns84_2 := NB300_320.out
           have hms84_0 := NB320_298.out
           have hms84_1 := NB320_299.out
           have hms84_2 := NB320_300.out
           refine skip_ (w1 := ?_) (by rfl) rfl ?_ ?_
           rotate_left
           ·go_simp
            rfl
           refine hK.out _ _ ⟨((cell_far (p := ⟨gb320, _, none⟩) NB300_320.out _).trans (((cell_far (p := ⟨gb320, _, none⟩) NB300_320.out _).trans (hHeld.1)))), ((cell_far (p := ⟨gb320, _, none⟩) NB300_320.out _).trans (((cell_far (p := ⟨gb320, _, none⟩) NB300_320.out _).trans (hHeld.2.1)))), ((cell_far (p := ⟨gb320, _, none⟩) (aD hw311_0 GW320) _).trans (((cell_far (p := ⟨gb320, _, none⟩) (aD hw311_0 GW320) _).trans (hHeld.2.2.1)))), ((cell_far (p := ⟨gb320, _, none⟩) (aD hw311_1 GW320) _).trans (((cell_far (p := ⟨gb320, _, none⟩) (aD hw311_1 GW320) _).trans (hHeld.2.2.2.1)))), ((cell_far (p := ⟨gb320, _, none⟩) (aD hw311_2 GW320) _).trans (((cell_far (p := ⟨gb320, _, none⟩) (aD hw311_2 GW320) _).trans (hHeld.2.2.2.2.1)))), ((cell_far (p := ⟨gb320, _, none⟩) (aD hw312_0 GW320) _).trans (((cell_far (p := ⟨gb320, _, none⟩) (aD hw312_0 GW320) _).trans (hHeld.2.2.2.2.2.1)))), ((cell_far (p := ⟨gb320, _, none⟩) (aD hw312_1 GW320) _).trans (((cell_far (p := ⟨gb320, _, none⟩) (aD hw312_1 GW320) _).trans (hHeld.2.2.2.2.2.2.1)))), ((cell_far (p := ⟨gb320, _, none⟩) (aD hw312_2 GW320) _).trans (((cell_far (p := ⟨gb320, _, none⟩) (aD hw312_2 GW320) _).trans (hHeld.2.2.2.2.2.2.2))))⟩ (fun hHeld => ?_)
           clear hK K
           refine pU 17 (some 14) #[T_,T_,T_,T_,T_,T_,T_,T_,T_,T_,T_,T_,T_,T_,T_,T_,T_,T_] HT_ ?_
           refine done_ (done_of HT_.out (by kernel_rfl)) ?_
           obtain ⟨hnb85, hnc85⟩ := nn_ NB320_298
           obtain ⟨hnb86, hnc86⟩ := nn_ NB320_299
           obtain ⟨hnb87, hnc87⟩ := nn_ NB320_300
           obtain ⟨hcz88_0, hcz88_1, hfz88_0, hfz88_1⟩ := e2_ BK320
           obtain ⟨hnb89, hnc89⟩ := nn_ NB300_298
           obtain ⟨hnb90, hnc90⟩ := nn_ NB300_299
           obtain ⟨hcz91_0, hcz91_1, hfz91_0, hfz91_1⟩ := e2_ BK300
           obtain ⟨hnb92, hnc92⟩ := nn_ NB298_299
           obtain ⟨hcz93_0, hcz93_1, hfz93_0, hfz93_1⟩ := e2_ BK298
           obtain ⟨hcz94_0, hcz94_1, hfz94_0, hfz94_1⟩ := e2_ BK299
           try go_wp2
           refine bodyPost_ret (results_ct rfl _ _ gb299 25 #[.slice A0_0 l0_0.length c0_0, .slice A0_1 l0_1.length c0_1] (0, 0) _ rfl (by (with_reducible repeat (first | apply xN_ | apply xD_ | apply xA_)); refine blk_put (cs := #[.slice A0_0 l0_0.length c0_0, .slice none 0 0]) ?_ 1 _ rfl; refine blk_put (cs := #[.slice none 0 0, .slice none 0 0]) ?_ 0 _ rfl; refine xR_ ?_ NB299_300.out _; refine xR_ ?_ NB299_300.out _; refine xR_ ?_ NB299_320.out _; refine xR_ ?_ NB299_320.out _; (with_reducible repeat (first | apply xN_ | apply xD_ | apply xA_)); exact BK299.out) Try.underlying25 rfl (by kernel_rfl)) rfl ?_
           exact ⟨_, _, eX, by (with_reducible repeat (first | apply Kd.V_alloc | apply Kd.V_drewN | apply Kd.V_drew)); exact Kd.V_mono (Kd.V_far (p := ⟨gb299, 1, none⟩) (Kd.V_far (p := ⟨gb299, 0, none⟩) (Kd.V_far (p := ⟨gb300, 1, none⟩) (Kd.V_far (p := ⟨gb300, 0, none⟩) (Kd.V_far (p := ⟨gb320, 1, none⟩) (Kd.V_far (p := ⟨gb320, 0, none⟩) (Kd.V_mono (Kd.V_mono (Kd.V_mono HO_299000.out (fun k_ hk => (⟨hk, hk.2.2.2.2⟩ : _ ∧ k_ ≠ gb320))) (fun k_ hk => (⟨hk, hk.1.2.2.2.1⟩ : _ ∧ k_ ≠ gb300))) (fun k_ hk => (⟨hk, hk.1.1.2.2.1⟩ : _ ∧ k_ ≠ gb299))) (fun _ hk => hk.1.1.2) (.slice Ao81 t313.length co81)) (fun _ hk => hk.1.1.2) (.slice Ao83 t316.length co83)) (fun _ hk => hk.1.2) (.slice Ao81 t313.length co81)) (fun _ hk => hk.1.2) (.slice Ao83 t316.length co83)) (fun _ hk => hk.2) (.slice A0_0 l0_0.length c0_0)) (fun _ hk => hk.2) (.slice A0_1 l0_1.length c0_1)) (fun _ hk => hk.1.1.1.1), by (with_reducible repeat (first | apply Kd.V_alloc | apply Kd.V_drewN | apply Kd.V_drew)); exact Kd.V_mono (Kd.V_far (p := ⟨gb299, 1, none⟩) (Kd.V_far (p := ⟨gb299, 0, none⟩) (Kd.V_far (p := ⟨gb300, 1, none⟩) (Kd.V_far (p := ⟨gb300, 0, none⟩) (Kd.V_far (p := ⟨gb320, 1, none⟩) (Kd.V_far (p := ⟨gb320, 0, none⟩) (Kd.V_mono (Kd.V_mono (Kd.V_mono HO_299001.out (fun k_ hk => (⟨hk, hk.2.2.2.2⟩ : _ ∧ k_ ≠ gb320))) (fun k_ hk => (⟨hk, hk.1.2.2.2.1⟩ : _ ∧ k_ ≠ gb300))) (fun k_ hk => (⟨hk, hk.1.1.2.2.1⟩ : _ ∧ k_ ≠ gb299))) (fun _ hk => hk.1.1.2) (.slice Ao81 t313.length co81)) (fun _ hk => hk.1.1.2) (.slice Ao83 t316.length co83)) (fun _ hk => hk.1.2) (.slice Ao81 t313.length co81)) (fun _ hk => hk.1.2) (.slice Ao83 t316.length co83)) (fun _ hk => hk.2) (.slice A0_0 l0_0.length c0_0)) (fun _ hk => hk.2) (.slice A0_1 l0_1.length c0_1)) (fun _ hk => hk.1.1.1.1), qH⟩
        ·rw [if_neg c20] at H
         exact absurd H (by simp)
       ·rw [if_neg c19] at H
        exact absurd H (by simp)
      ·replace c18 := Bool.eq_false_iff.mpr c18
       subst c18
       rw [if_neg nF_] at H
       simp only [Option.some.injEq, Prod.mk.injEq] at H
       obtain ⟨rfl, rfl, rfl⟩ := H
       obtain ⟨hnb95, hnc95⟩ := nn_ NB300_298
       obtain ⟨hnb96, hnc96⟩ := nn_ NB300_299
       obtain ⟨hcz97_0, hcz97_1, hfz97_0, hfz97_1⟩ := e2_ BK300
       obtain ⟨Ao98, co98, eo98⟩ := Kd.V_slice HO_301000.out
       subst eo98
       obtain ⟨hnb99, hnc99⟩ := nn_ NB299_298
       obtain ⟨hcz100_0, hcz100_1, hfz100_0, hfz100_1⟩ := e2_ BK299
       obtain ⟨Ao101, co101, eo101⟩ := Kd.V_slice HO_301001.out
       subst eo101
       go_wp2
       refine bodyPost_ret (results_ct rfl _ _ gb299 25 #[.slice Ao98 x301000_1.length co98, .slice Ao101 x301001_1.length co101] (0, 0) _ rfl (by (with_reducible repeat (first | apply xN_ | apply xD_ | apply xA_)); refine blk_put (cs := #[.slice Ao98 x301000_1.length co98, .slice none 0 0]) ?_ 1 _ rfl; refine blk_put (cs := #[.slice none 0 0, .slice none 0 0]) ?_ 0 _ rfl; (with_reducible repeat (first | apply xN_ | apply xD_ | apply xA_)); exact BK299.out) Try.underlying25 rfl (by kernel_rfl)) rfl ?_
       exact ⟨_, _, eX, by (with_reducible repeat (first | apply Kd.V_alloc | apply Kd.V_drewN | apply Kd.V_drew)); exact Kd.V_mono (vG2 (g := gb299) HO_301000.out (fun _ hk => hk.2.2.1)) (fun _ hk => hk.1.1), by (with_reducible repeat (first | apply Kd.V_alloc | apply Kd.V_drewN | apply Kd.V_drew)); exact Kd.V_mono (vG2 (g := gb299) HO_301001.out (fun _ hk => hk.2.2.1)) (fun _ hk => hk.1.1), qH⟩
 ·replace c5 := Bool.eq_false_iff.mpr c5
  subst c5
  rw [if_neg nF_] at H
  simp only [Option.some.injEq, Prod.mk.injEq] at H
  obtain ⟨rfl, rfl, rfl⟩ := H
  go_enter Try.func26, Try.ntmps26
  go_wp2_with (first | ((with_reducible refine gate_dst (N := 3) rfl ?_); refine bE (N := 3) (cs := #[.slice A0_0 l0_0.length c0_0, .slice A0_1 l0_1.length c0_1]) (t := 25) ?_; intro gb298 hg w102 hbox hb; have hz_ := zqA HB hb; replace hb := below_step hz_ hb; replace HO0_0 := zE HO0_0 hz_ hg hb; replace HO0_1 := zE HO0_1 hz_ hg hb; have BK298 := Aside0.mk hbox; have GE298 := zG HB hz_ hg; replace HB := zH HB hb; clear hz_; clear hb hbox hg) | ((with_reducible refine gate_dst (N := 6) rfl ?_); refine bE (N := 6) (cs := #[.slice none 0 0, .slice none 0 0]) (t := 25) ?_; intro gb299 hg w103 hbox hb; have hz_ := zqA HB hb; replace hb := below_step hz_ hb; replace HO0_0 := zE HO0_0 hz_ hg hb; replace HO0_1 := zE HO0_1 hz_ hg hb; have BK299 := Aside0.mk hbox; have GE299 := zG HB hz_ hg; have NB298_299 := zN BK298 hz_ hg; have NB299_298 := zM BK298 hz_ hg; replace BK298 := zB BK298 hb; replace HB := zH HB hb; clear hz_; clear hb hbox hg; obtain ⟨hnb104, hnc104⟩ := nn_ NB298_299; obtain ⟨hcz105_0, hcz105_1, hfz105_0, hfz105_1⟩ := e2_ BK298) | ((with_reducible refine gate_dst (N := 8) rfl ?_); refine bE (N := 8) (cs := #[.slice none 0 0, .slice none 0 0]) (t := 25) ?_; intro gb300 hg w106 hbox hb; have hz_ := zqA HB hb; replace hb := below_step hz_ hb; replace HO0_0 := zE HO0_0 hz_ hg hb; replace HO0_1 := zE HO0_1 hz_ hg hb; have BK300 := Aside0.mk hbox; have GE300 := zG HB hz_ hg; have NB298_300 := zN BK298 hz_ hg; have NB300_298 := zM BK298 hz_ hg; have NB299_300 := zN BK299 hz_ hg; have NB300_299 := zM BK299 hz_ hg; replace BK298 := zB BK298 hb; replace BK299 := zB BK299 hb; replace HB := zH HB hb; clear hz_; clear hb hbox hg; obtain ⟨hnb107, hnc107⟩ := nn_ NB300_298; obtain ⟨hnb108, hnc108⟩ := nn_ NB300_299; obtain ⟨hcz109_0, hcz109_1, hfz109_0, hfz109_1⟩ := e2_ BK300; obtain ⟨hcz110_0, hcz110_1, hfz110_0, hfz110_1⟩ := e2_ BK298) | ((with_reducible refine gate_callee (f := 25) rfl ?_); refine gL (some 17) Try.func25 #[.agg #[.slice A0_0 l0_0.length c0_0, .slice A0_1 l0_1.length c0_1]] ?_; (with_reducible refine (armadaref01_May.calls k _ _ l0_0 _ _ l0_1 false _ ?side1 ?side2 ?side3 ?side4 A4.out).mono ?_); (case side1 => refine (Kd.V_reads' (e := 9) (base := w.heap.size) (ok := fun k_ => (((((P0_0_ k_ ∨ P0_1_ k_) ∨ w.heap.size ≤ k_) ∧ k_ ≠ gb298) ∧ k_ ≠ gb299) ∧ k_ ≠ gb300)) (n := l0_0.length) (c := c0_0) ?_).2.2; exact (qV (vF2 HO0_0.out (fun _ hk => hk.2)))); (case side2 => exact (Kd.V_reads' HO0_0.out).2.1); (case side3 => refine (Kd.V_reads' (e := 29) (base := w.heap.size) (ok := fun k_ => (((((P0_0_ k_ ∨ P0_1_ k_) ∨ w.heap.size ≤ k_) ∧ k_ ≠ gb298) ∧ k_ ≠ gb299) ∧ k_ ≠ gb300)) (n := l0_1.length) (c := c0_1) ?_).2.2; exact (qV (vF2 HO0_1.out (fun _ hk => hk.2)))); (case side4 => exact (Kd.V_reads' HO0_1.out).2.1); rintro e w111 ⟨rfl, hb⟩; refine ⟨_, rfl, ?_⟩; have hz_ := zq2 HB gb300 (.slice A0_0 l0_0.length c0_0) (.slice A0_1 l0_1.length c0_1) (by repeat (first | (with_reducible first | exact Below.refl _ _ | apply yA_ | apply yN_ | apply yD_) | exact Below.refl _ _)) hb; replace hb := below_step hz_ hb; replace HO0_0 := zF HO0_0 (fun _ hk => hk.2) hb; replace HO0_1 := zF HO0_1 (fun _ hk => hk.2) hb; replace BK298 := zBF BK298 NB298_300 hb; replace BK299 := zBF BK299 NB299_300 hb; replace BK300 := zBP BK300 hb; replace HB := zHF HB GE300 hb; clear hz_; (try clear hb); obtain ⟨hcz112_0, hcz112_1, hfz112_0, hfz112_1⟩ := e2_ BK298; obtain ⟨hcz113_0, hcz113_1, hfz113_0, hfz113_1⟩ := e2_ BK299))
  refine bodyPost_ret (results_ct rfl _ _ gb299 25 #[.slice A0_0 l0_0.length c0_0, .slice A0_1 l0_1.length c0_1] (0, 0) _ rfl (by (with_reducible repeat (first | apply xN_ | apply xD_ | apply xA_)); refine blk_put (cs := #[.slice A0_0 l0_0.length c0_0, .slice none 0 0]) ?_ 1 _ rfl; refine blk_put (cs := #[.slice none 0 0, .slice none 0 0]) ?_ 0 _ rfl; (with_reducible repeat (first | apply xN_ | apply xD_ | apply xA_)); exact BK299.out) Try.underlying25 rfl (by kernel_rfl)) rfl ?_
  exact ⟨_, _, eX, by (with_reducible repeat (first | apply Kd.V_alloc | apply Kd.V_drewN | apply Kd.V_drew)); exact Kd.V_mono (vG2 (g := gb299) HO0_0.out (fun _ hk => hk.1.2)) (fun _ hk => hk.1.1.1.1), by (with_reducible repeat (first | apply Kd.V_alloc | apply Kd.V_drewN | apply Kd.V_drew)); exact Kd.V_mono (vG2 (g := gb299) HO0_1.out (fun _ hk => hk.1.2)) (fun _ hk => hk.1.1.1.1), qH⟩
end Go.Proofs.Ythoddglnfdmdeaa.P
