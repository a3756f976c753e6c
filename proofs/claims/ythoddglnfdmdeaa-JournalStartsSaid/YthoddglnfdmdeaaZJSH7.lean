/- journal.Add: printed up to its last branch, which is walked by hand. -/
import Derived.Test.YthoddglnfdmdeaaZJSM0
import Derived.Test.YthoddglnfdmdeaaZJSH6
import Derived.Test.YthoddglnfdmdeaaZJSM4
import Derived.Test.YthoddglnfdmdeaaZJSH3
import Derived.Deep.LoopGhost
import Derived.Outline
import Derived.Sort.AtCall
import Derived.Test.YthoddglnfdmdeaaZJSAl
namespace Go.Proofs.Ythoddglnfdmdeaa.P
open Go.RowKit Go.Proofs.YthoddglnfdmdeaaW.PrintWords Go.Proofs.YthoddglnfdmdeaaW.PrintLast Go.Proofs.YthoddglnfdmdeaaW.PrintMore
attribute [local go_sem] max2_int min2_int max_two min_two max_three min_three max_four min_four   -- for this text's walks alone
set_option linter.unusedVariables false
set_option linter.unusedSimpArgs false
def datas (next : Int) : Nat → List ByteArray → List S85
 | _, [] => []
 | i, s :: r => ⟨false, wrap64 (wrap64 (next + 1) + (i : Int)), s⟩ :: datas next (i + 1) r
def journal_Add.tail (k : Nat) (gen : Int) (items : List ByteArray) (next : Int) (payload : ByteArray) : Option (List S85 × Int) :=
 (rec_Cut.f k payload).bind fun l => if l.length ≤ 10000 then (headActs k next 2 gen (items.length : Int) payload).bind fun y => some (datas next 0 l ++ [⟨true, 0, ⟨#[]⟩⟩] ++ y, 0) else none
theorem journal_Add.tail_mono (gen : Int) (items : List ByteArray) (next : Int) (payload : ByteArray) (k : Nat) : LeO (journal_Add.tail k gen items next payload) (journal_Add.tail (k + 1) gen items next payload) := by
 unfold journal_Add.tail
 refine LeO.bind (rec_Cut.mono _ _) (fun _ => ?_)
 refine LeO.ite ?_ (LeO.refl _)
 exact LeO.bind (headActs.mono _ _ _ _ _ _) (fun _ => LeO.refl _)
theorem acts_row {α : Type} {d : Kd α} {e base : Nat} {ok : Nat → Prop} {v : Value} {l : List α} {w0 W : World} {g : Nat} {xs : List S85} (h : ActsAt w0 g xs W) (hr : Kd.R d e w0 base ok v l) (hok : ∀ k, ok k → k ≠ g) : Kd.R d e W base ok v l := by
 obtain ⟨u, hb, -, -⟩ := h
 exact Kd.R_step hr (fun k ho hk => by rw [hb.block k hk, Below.heap_setCell _ _ _ _ (hok k ho)])
def journal_Add.j0 : Nat → ByteArray → Bool → Int → Int → Int → List ByteArray → Int → Option ((List (S85)) × Int)
 | 0, _, _, _, _, _, _, _ => none
 | k + 1, x2, x11, x264000, x264001, x265000, x265001, x265002 => if x11 = true then (some (([] : List (S85)), 1)) else (if (x2.size : Int) > 4096 then (some (([] : List (S85)), 2)) else ((rec_Count.f (x2.size : Int)).bind fun t269 => ((journal_Region_end.f x264000 x264001).bind fun t270 => (if t269 ≥ (wrap64 (t270 - x265002)) then (some (([] : List (S85)), 3)) else (journal_Add.tail k x265000 x265001 x265002 x2)))))
def journal_Add.f (k : Nat) (a0_0 : Int) (a0_1 : Int) (a1_0 : Int) (l1_1 : List ByteArray) (a1_2 : Int) (a2 : ByteArray) : Option ((List (S85)) × Int) := (journal_Region_Check.f a0_0 a0_1).bind fun t265 => (if t265 = true then ((journal_in.f a1_0 0 1073741824).bind fun t266 => (if t266 = true then ((journal_Region_end.f a0_0 a0_1).bind fun t267 => ((journal_in.f a1_2 (wrap64 (a0_0 + 1)) t267).bind fun t268 => (if t268 = true then (journal_Add.j0 k a2 (decide ((l1_1.length : Int) > 65535)) a0_0 a0_1 a1_0 l1_1 a1_2) else (journal_Add.j0 k a2 true a0_0 a0_1 a1_0 l1_1 a1_2)))) else (journal_Add.j0 k a2 true a0_0 a0_1 a1_0 l1_1 a1_2))) else (journal_Add.j0 k a2 true a0_0 a0_1 a1_0 l1_1 a1_2))
theorem journal_Add.mono_l : ∀ k, (∀ y0 y1 y2 y3 y4 y5 y6, LeO (journal_Add.j0 k y0 y1 y2 y3 y4 y5 y6) (journal_Add.j0 (k + 1) y0 y1 y2 y3 y4 y5 y6))
 | 0 => fun _ _ _ _ _ _ _ r h => by simp [journal_Add.j0] at h
 | k + 1 => by
  have ih0 := journal_Add.mono_l k
  ·intro y0 y1 y2 y3 y4 y5 y6
   unfold journal_Add.j0
   repeat' first
   | (with_reducible exact ih0 _ _ _ _ _ _ _)
   | (with_reducible exact journal_Add.tail_mono _ _ _ _ _)
   | (with_reducible exact LeO.refl _)
   | (with_reducible exact LeO.none _)
   | (with_reducible refine LeO.ite ?_ ?_)
   | (with_reducible refine LeO.bind ?_ (fun _ => ?_))
   | exact ih0 _ _ _ _ _ _ _
   | exact LeO.none _
   | refine LeO.ite ?_ ?_
   | refine LeO.bind ?_ (fun _ => ?_)
theorem journal_Add.mono : ∀ a0 a1 a2 a3 a4 a5 k, LeO (journal_Add.f k a0 a1 a2 a3 a4 a5) (journal_Add.f (k + 1) a0 a1 a2 a3 a4 a5) := by
 intro a0 a1 a2 a3 a4 a5 k
 have ih0 := journal_Add.mono_l k
 unfold journal_Add.f
 repeat' first
   | (with_reducible exact ih0 _ _ _ _ _ _ _)
   | (with_reducible exact journal_Add.tail_mono _ _ _ _ _)
   | (with_reducible exact LeO.refl _)
   | (with_reducible exact LeO.none _)
   | (with_reducible refine LeO.ite ?_ ?_)
   | (with_reducible refine LeO.bind ?_ (fun _ => ?_))
   | exact ih0 _ _ _ _ _ _ _
   | exact LeO.none _
   | refine LeO.ite ?_ ?_
   | refine LeO.bind ?_ (fun _ => ?_)
def journal_Add.T1 : Bool × List (List Nat × List Nat) := (true, [([], []), ([0], [0]), ([1], [1]), ([2, 1], [2]), ([3], [3]), ([4, 3], [3, 4]), ([5, 3, 3], [3, 5]), ([6, 3], [3, 6]), ([3, 7], [3, 7]), ([8, 6], [8]), ([9], [9]), ([10, 9], [9, 10]), ([9], [9]), ([12, 9], [9, 12]), ([13, 9], [9, 13]), ([9], [9]), ([15, 9, 9], [9, 15]), ([11, 14, 16, 16, 9], [9, 11, 14, 16]), ([17, 9], [9, 17]), ([9, 18], [9, 18]), ([19, 17], [19]), ([20], [20]), ([21, 20], [20, 21]), ([22, 20], [20, 22]), ([23, 20], [20, 23]), ([20, 24], [20, 24]), ([25, 20], [25])])
def journal_Add.B1 : List Nat := [0, 1, 3, 7, 15, 31, 63, 127, 255, 511, 1023, 2047, 1023, 5119, 13311, 1023, 33791, 131071, 262143, 524287, 1048575, 2097151, 4194303, 8388607, 16777215, 33554431, 67108863]
theorem journal_Add.tab1 : rtab .any (opsOf Try.f20 1) = journal_Add.T1 := by kernel_rfl
theorem journal_Add.bits1 : waitsOk journal_Add.T1.2 journal_Add.B1 = true := by kernel_rfl
def journal_Add.T5 : Bool × List (List Nat × List Nat) := (true, [([], []), ([0], [0]), ([1], [1]), ([], []), ([3, 2], [3]), ([], []), ([5], [5]), ([4, 6], [4, 6]), ([2, 7], [2, 7]), ([8, 4], [8])])
def journal_Add.B5 : List Nat := [0, 1, 3, 0, 15, 0, 32, 127, 255, 511]
theorem journal_Add.tab5 : rtab .any (opsOf Try.f20 5) = journal_Add.T5 := by kernel_rfl
theorem journal_Add.bits5 : waitsOk journal_Add.T5.2 journal_Add.B5 = true := by kernel_rfl
set_option maxHeartbeats 8000000 in
set_option maxRecDepth 100000 in
theorem journal_Add.calls (k : Nat) (a0_0 : Int) (a0_1 : Int) (a1_0 : Int) (A1_1 : Option Addr) (c1_1 : Nat) (l1_1 : List ByteArray) (a1_2 : Int) (a2 : ByteArray) (r1 : List (S85)) (r2 : Int) (w : World) (hr1_1 : Kd.C Kd.string w A1_1 l1_1.length l1_1) (hc1_1 : l1_1.length ≤ c1_1) (h : journal_Add.f k a0_0 a0_1 a1_0 l1_1 a1_2 a2 = some (r1, r2)) :
  Calls Try.prog 20 #[.agg #[.int .i64 a0_0, .int .i64 a0_1], .agg #[.int .i64 a1_0, .slice A1_1 l1_1.length c1_1, .int .i64 a1_2], .string a2] w fun e w' => ∃ v0_ : Value, e = .returned (.tuple #[v0_, .int .i64 r2]) ∧ Kd.R k85 85 w' w.heap.size (fun _ => True) v0_ r1 ∧ Below w.heap.size w w' := by
 have hu40 := Try.underlying40
 have hu37 := Try.underlying37
 have HR1_1 := Aside0.mk hr1_1
 have HC1_1 := Aside0.mk hc1_1
 clear hr1_1 hc1_1
 have HB := Aside0.mk (Below.refl w.heap.size w)
 have H := h
 unfold journal_Add.f at H
 clear h
 have HC4 := Aside0.mk H
 clear H
 go_enter Try.func20, Try.ntmps20
 go_upto_region 1 with (first | ((with_reducible refine gate_dst (N := 3) rfl ?_); (try (refine gate_guard (by rfl) ?_; dsimp only)); refine bE (N := 3) (cs := #[.int .i64 a0_0, .int .i64 a0_1]) (t := 40) ?_; intro gb263 hg w5 hbox hb; have n0_ := wH hb; have n1_ := Aside0.mk (hbox); have n2_ := Aside0.mk ((qG hg)); have n3_ := Aside0.mk ((qG hg)); clear HB; have HB := n0_; have BK263 := n1_; have GE263 := n3_; clear n0_ n1_ n2_ n3_; clear hb hbox hg) | ((with_reducible refine gate_dst (N := 4) rfl ?_); (try (refine gate_guard (by rfl) ?_; dsimp only)); refine bE (N := 4) (cs := #[.int .i64 a1_0, .slice A1_1 l1_1.length c1_1, .int .i64 a1_2]) (t := 37) ?_; intro gb264 hg w6 hbox hb; have n0_ := wB BK263 hb; have n1_ := wH hb; have n2_ := Aside0.mk (hbox); have n3_ := Aside0.mk ((qG hg)); have n4_ := Aside0.mk ((qG hg)); have n5_ := Aside0.mk ((by rw [hg]; exact Nat.ne_of_lt (blk_lt (g := gb263) (o := .cells #[.int .i64 a0_0, .int .i64 a0_1] 40 (0, 0)) (qB BK263)) : gb263 ≠ gb264)); have n6_ := Aside0.mk ((by rw [hg]; exact Nat.ne_of_gt (blk_lt (g := gb263) (o := .cells #[.int .i64 a0_0, .int .i64 a0_1] 40 (0, 0)) (qB BK263)) : gb264 ≠ gb263)); clear BK263; clear HB; have BK263 := n0_; have HB := n1_; have BK264 := n2_; have GE264 := n4_; have NB263_264 := n5_; have NB264_263 := n6_; clear n0_ n1_ n2_ n3_ n4_ n5_ n6_; clear hb hbox hg))
 (try simp only [Act.put, List.setIfInBounds_toArray, List.set_cons_zero, List.set_cons_succ])
 go_cut [11] (fun v11 wc => ∃ (kq : Nat) (x11_3 : Bool), v11 = .bool x11_3 ∧ Aside0 (journal_Add.j0 kq a2 x11_3 a0_0 a0_1 a1_0 l1_1 a1_2 = some (r1, r2)) ∧ Aside0 (kq ≤ k) ∧ Aside0 (wc.heap[gb263]? = some (.cells #[.int .i64 a0_0, .int .i64 a0_1] 40 (0, 0))) ∧ Aside0 (wc.heap[gb264]? = some (.cells #[.int .i64 a1_0, (.slice A1_1 l1_1.length c1_1), .int .i64 a1_2] 37 (0, 0))) ∧ Aside0 (Below w.heap.size w wc))
 case first =>
  have H := HC4.out
  clear HC4
  replace H := Option.bind_eq_some_iff.mp H
  obtain ⟨t265, A70, H⟩ := H
  try dsimp only at H
  have A7 := Aside0.mk A70
  clear A70
  by_cases c8 : t265 = true
  ·subst c8
   rw [if_pos rfl] at H
   replace H := Option.bind_eq_some_iff.mp H
   obtain ⟨t266, A90, H⟩ := H
   try dsimp only at H
   have A9 := Aside0.mk A90
   clear A90
   by_cases c10 : t266 = true
   ·subst c10
    rw [if_pos rfl] at H
    replace H := Option.bind_eq_some_iff.mp H
    obtain ⟨t267, A110, H⟩ := H
    try dsimp only at H
    have A11 := Aside0.mk A110
    clear A110
    replace H := Option.bind_eq_some_iff.mp H
    obtain ⟨t268, A120, H⟩ := H
    try dsimp only at H
    have A12 := Aside0.mk A120
    clear A120
    by_cases c13 : t268 = true
    ·subst c13
     rw [if_pos rfl] at H
     have H' := Aside0.mk H
     clear H
     try go_wp2
     have n0_ := Aside0.mk (xD_ BK263.out)
     have n1_ := Aside0.mk (xD_ BK264.out)
     have n2_ := Aside0.mk (yD_ HB.out)
     clear BK263
     clear BK264
     clear HB
     have BK263 := n0_
     have BK264 := n1_
     have HB := n2_
     clear n0_ n1_ n2_
     refine start_ (n := 27) (S := fun w' => w'.cell? ⟨gb263, 0, none⟩ = some (.int .i64 a0_0) ∧ w'.cell? ⟨gb263, 1, none⟩ = some (.int .i64 a0_1) ∧ w'.cell? ⟨gb264, 0, none⟩ = some (.int .i64 a1_0) ∧ w'.cell? ⟨gb264, 1, none⟩ = some (.slice A1_1 l1_1.length c1_1) ∧ w'.cell? ⟨gb264, 2, none⟩ = some (.int .i64 a1_2)) (ds := []) #[F_,F_,F_,F_,F_,F_,F_,F_,F_,F_,F_,F_,F_,F_,F_,F_,F_,F_,F_,F_,F_,F_,F_,F_,F_,F_,F_] (by kernel_rfl) rfl rfl ⟨c0_ BK263, c1_ BK263, c0_ BK264, c1_ BK264, c2_ BK264⟩ (fun hHeld => ?_); refine with_tabW journal_Add.tab1 journal_Add.bits1 (fun HT_ HW_ => ?_)
     generalize w6.drew = w14 at BK263 BK264 HB hHeld ⊢
     refine tK 0 (some 12) #[T_,F_,F_,F_,F_,F_,F_,F_,F_,F_,F_,F_,F_,F_,F_,F_,F_,F_,F_,F_,F_,F_,F_,F_,F_,F_,F_] HT_ HW_ hHeld ?_
     refine oN 1 (some 13) #[T_,T_,F_,F_,F_,F_,F_,F_,F_,F_,F_,F_,F_,F_,F_,F_,F_,F_,F_,F_,F_,F_,F_,F_,F_,F_,F_] HT_ (fun K hK => ?_)
     refine gO Try.func28 #[.agg #[.int .i64 a0_0, .int .i64 a0_1]] ?_
     with_reducible refine (journal_Region_Check.calls a0_0 a0_1 true _ A7.out).mono ?_
     rintro e w15 ⟨rfl, hb⟩
     refine ⟨_, rfl, ?_⟩
     have n0_ := wB BK263 hb
     have n1_ := wB BK264 hb
     have n2_ := wH hb
     clear BK263
     clear BK264
     clear HB
     have BK263 := n0_
     have BK264 := n1_
     have HB := n2_
     clear n0_ n1_ n2_
     (try clear hb)
     (try clear hb2)
     (try clear hk)
     (try clear hi)
     refine hK.out _ _ ⟨c0_ BK263, c1_ BK263, c0_ BK264, c1_ BK264, c2_ BK264⟩ (fun hHeld => ?_)
     clear hK K
     refine nS (some 13) ?_
     refine pU 2 (some 14) #[T_,T_,T_,F_,F_,F_,F_,F_,F_,F_,F_,F_,F_,F_,F_,F_,F_,F_,F_,F_,F_,F_,F_,F_,F_,F_,F_] HT_ ?_
     refine pU 3 (some 15) #[T_,T_,T_,T_,F_,F_,F_,F_,F_,F_,F_,F_,F_,F_,F_,F_,F_,F_,F_,F_,F_,F_,F_,F_,F_,F_,F_] HT_ ?_
     refine pU 4 (some 16) #[T_,T_,T_,T_,T_,F_,F_,F_,F_,F_,F_,F_,F_,F_,F_,F_,F_,F_,F_,F_,F_,F_,F_,F_,F_,F_,F_] HT_ ?_
     refine tK 5 (some 17) #[T_,T_,T_,T_,T_,T_,F_,F_,F_,F_,F_,F_,F_,F_,F_,F_,F_,F_,F_,F_,F_,F_,F_,F_,F_,F_,F_] HT_ HW_ hHeld ?_
     refine oN 6 (some 18) #[T_,T_,T_,T_,T_,T_,T_,F_,F_,F_,F_,F_,F_,F_,F_,F_,F_,F_,F_,F_,F_,F_,F_,F_,F_,F_,F_] HT_ (fun K hK => ?_)
     refine gO Try.func37 #[.int .i64 a1_0, .int .i64 0, .int .i64 1073741824] ?_
     with_reducible refine (journal_in.calls a1_0 0 1073741824 true _ A9.out).mono ?_
     rintro e w' ⟨rfl, ⟨nd, rfl⟩⟩
     refine ⟨_, rfl, ?_⟩
     refine hK.out _ _ ⟨c0_ BK263, c1_ BK263, c0_ BK264, c1_ BK264, c2_ BK264⟩ (fun hHeld => ?_)
     clear hK K
     refine nS (some 18) ?_
     refine pU 7 (some 19) #[T_,T_,T_,T_,T_,T_,T_,T_,F_,F_,F_,F_,F_,F_,F_,F_,F_,F_,F_,F_,F_,F_,F_,F_,F_,F_,F_] HT_ ?_
     refine pU 8 (some 20) #[T_,T_,T_,T_,T_,T_,T_,T_,T_,F_,F_,F_,F_,F_,F_,F_,F_,F_,F_,F_,F_,F_,F_,F_,F_,F_,F_] HT_ ?_
     refine pU 9 (some 21) #[T_,T_,T_,T_,T_,T_,T_,T_,T_,T_,F_,F_,F_,F_,F_,F_,F_,F_,F_,F_,F_,F_,F_,F_,F_,F_,F_] HT_ ?_
     refine pU 10 (some 22) #[T_,T_,T_,T_,T_,T_,T_,T_,T_,T_,T_,F_,F_,F_,F_,F_,F_,F_,F_,F_,F_,F_,F_,F_,F_,F_,F_] HT_ ?_
     refine pU 12 (some 24) #[T_,T_,T_,T_,T_,T_,T_,T_,T_,T_,T_,F_,T_,F_,F_,F_,F_,F_,F_,F_,F_,F_,F_,F_,F_,F_,F_] HT_ ?_
     refine tK 11 (some 23) #[T_,T_,T_,T_,T_,T_,T_,T_,T_,T_,T_,T_,T_,F_,F_,F_,F_,F_,F_,F_,F_,F_,F_,F_,F_,F_,F_] HT_ HW_ hHeld ?_
     refine tK 13 (some 25) #[T_,T_,T_,T_,T_,T_,T_,T_,T_,T_,T_,T_,T_,T_,F_,F_,F_,F_,F_,F_,F_,F_,F_,F_,F_,F_,F_] HT_ HW_ hHeld ?_
     refine pU 14 (some 26) #[T_,T_,T_,T_,T_,T_,T_,T_,T_,T_,T_,T_,T_,T_,T_,F_,F_,F_,F_,F_,F_,F_,F_,F_,F_,F_,F_] HT_ ?_
     refine tK 15 (some 27) #[T_,T_,T_,T_,T_,T_,T_,T_,T_,T_,T_,T_,T_,T_,T_,T_,F_,F_,F_,F_,F_,F_,F_,F_,F_,F_,F_] HT_ HW_ hHeld ?_
     refine oN 16 (some 28) #[T_,T_,T_,T_,T_,T_,T_,T_,T_,T_,T_,T_,T_,T_,T_,T_,T_,F_,F_,F_,F_,F_,F_,F_,F_,F_,F_] HT_ (fun K hK => ?_)
     refine gO Try.func35 #[.agg #[.int .i64 a0_0, .int .i64 a0_1]] ?_
     with_reducible refine (journal_Region_end.calls a0_0 a0_1 t267 _ A11.out).mono ?_
     rintro e w16 ⟨rfl, hb⟩
     refine ⟨_, rfl, ?_⟩
     have n0_ := wB BK263 hb
     have n1_ := wB BK264 hb
     have n2_ := wH hb
     clear BK263
     clear BK264
     clear HB
     have BK263 := n0_
     have BK264 := n1_
     have HB := n2_
     clear n0_ n1_ n2_
     (try clear hb)
     (try clear hb2)
     (try clear hk)
     (try clear hi)
     refine hK.out _ _ ⟨c0_ BK263, c1_ BK263, c0_ BK264, c1_ BK264, c2_ BK264⟩ (fun hHeld => ?_)
     clear hK K
     refine nS (some 28) ?_
     refine oN 17 (some 29) #[T_,T_,T_,T_,T_,T_,T_,T_,T_,T_,T_,T_,T_,T_,T_,T_,T_,T_,F_,F_,F_,F_,F_,F_,F_,F_,F_] HT_ (fun K hK => ?_)
     refine gO Try.func37 #[.int .i64 a1_2, .int .i64 (wrap64 (a0_0 + 1)), .int .i64 t267] ?_
     with_reducible refine (journal_in.calls a1_2 (wrap64 (a0_0 + 1)) t267 true _ A12.out).mono ?_
     rintro e w' ⟨rfl, ⟨nd, rfl⟩⟩
     refine ⟨_, rfl, ?_⟩
     refine hK.out _ _ ⟨c0_ BK263, c1_ BK263, c0_ BK264, c1_ BK264, c2_ BK264⟩ (fun hHeld => ?_)
     clear hK K
     refine nS (some 29) ?_
     refine pU 18 (some 30) #[T_,T_,T_,T_,T_,T_,T_,T_,T_,T_,T_,T_,T_,T_,T_,T_,T_,T_,T_,F_,F_,F_,F_,F_,F_,F_,F_] HT_ ?_
     refine pU 19 (some 31) #[T_,T_,T_,T_,T_,T_,T_,T_,T_,T_,T_,T_,T_,T_,T_,T_,T_,T_,T_,T_,F_,F_,F_,F_,F_,F_,F_] HT_ ?_
     refine pU 20 (some 32) #[T_,T_,T_,T_,T_,T_,T_,T_,T_,T_,T_,T_,T_,T_,T_,T_,T_,T_,T_,T_,T_,F_,F_,F_,F_,F_,F_] HT_ ?_
     refine pU 21 (some 33) #[T_,T_,T_,T_,T_,T_,T_,T_,T_,T_,T_,T_,T_,T_,T_,T_,T_,T_,T_,T_,T_,T_,F_,F_,F_,F_,F_] HT_ ?_
     refine tK 22 (some 34) #[T_,T_,T_,T_,T_,T_,T_,T_,T_,T_,T_,T_,T_,T_,T_,T_,T_,T_,T_,T_,T_,T_,T_,F_,F_,F_,F_] HT_ HW_ hHeld ?_
     refine pU 23 (some 35) #[T_,T_,T_,T_,T_,T_,T_,T_,T_,T_,T_,T_,T_,T_,T_,T_,T_,T_,T_,T_,T_,T_,T_,T_,F_,F_,F_] HT_ ?_
     refine pU 24 (some 36) #[T_,T_,T_,T_,T_,T_,T_,T_,T_,T_,T_,T_,T_,T_,T_,T_,T_,T_,T_,T_,T_,T_,T_,T_,T_,F_,F_] HT_ ?_
     refine pU 25 (some 37) #[T_,T_,T_,T_,T_,T_,T_,T_,T_,T_,T_,T_,T_,T_,T_,T_,T_,T_,T_,T_,T_,T_,T_,T_,T_,T_,F_] HT_ ?_
     refine pU 26 (some 11) #[T_,T_,T_,T_,T_,T_,T_,T_,T_,T_,T_,T_,T_,T_,T_,T_,T_,T_,T_,T_,T_,T_,T_,T_,T_,T_,T_] HT_ ?_
     refine done_ (done_of HT_.out (by kernel_rfl)) ?_
     try go_wp2
     go_meet
     case rel => exact ⟨_, (decide ((l1_1.length : Int) > 65535)), eY, H', ⟨by first | omega | exact Nat.le_refl _⟩, ⟨qB BK263⟩, ⟨qB BK264⟩, ⟨qH⟩⟩
    ·replace c13 := Bool.eq_false_iff.mpr c13
     subst c13
     rw [if_neg nF_] at H
     have H' := Aside0.mk H
     clear H
     try go_wp2
     have n0_ := Aside0.mk (xD_ BK263.out)
     have n1_ := Aside0.mk (xD_ BK264.out)
     have n2_ := Aside0.mk (yD_ HB.out)
     clear BK263
     clear BK264
     clear HB
     have BK263 := n0_
     have BK264 := n1_
     have HB := n2_
     clear n0_ n1_ n2_
     refine start_ (n := 27) (S := fun w' => w'.cell? ⟨gb263, 0, none⟩ = some (.int .i64 a0_0) ∧ w'.cell? ⟨gb263, 1, none⟩ = some (.int .i64 a0_1) ∧ w'.cell? ⟨gb264, 0, none⟩ = some (.int .i64 a1_0) ∧ w'.cell? ⟨gb264, 1, none⟩ = some (.slice A1_1 l1_1.length c1_1) ∧ w'.cell? ⟨gb264, 2, none⟩ = some (.int .i64 a1_2)) (ds := []) #[F_,F_,F_,F_,F_,F_,F_,F_,F_,F_,F_,F_,F_,F_,F_,F_,F_,F_,F_,F_,F_,F_,F_,F_,F_,F_,F_] (by kernel_rfl) rfl rfl ⟨c0_ BK263, c1_ BK263, c0_ BK264, c1_ BK264, c2_ BK264⟩ (fun hHeld => ?_); refine with_tabW journal_Add.tab1 journal_Add.bits1 (fun HT_ HW_ => ?_)
     generalize w6.drew = w17 at BK263 BK264 HB hHeld ⊢
     refine tK 0 (some 12) #[T_,F_,F_,F_,F_,F_,F_,F_,F_,F_,F_,F_,F_,F_,F_,F_,F_,F_,F_,F_,F_,F_,F_,F_,F_,F_,F_] HT_ HW_ hHeld ?_
     refine oN 1 (some 13) #[T_,T_,F_,F_,F_,F_,F_,F_,F_,F_,F_,F_,F_,F_,F_,F_,F_,F_,F_,F_,F_,F_,F_,F_,F_,F_,F_] HT_ (fun K hK => ?_)
     refine gO Try.func28 #[.agg #[.int .i64 a0_0, .int .i64 a0_1]] ?_
     with_reducible refine (journal_Region_Check.calls a0_0 a0_1 true _ A7.out).mono ?_
     rintro e w18 ⟨rfl, hb⟩
     refine ⟨_, rfl, ?_⟩
     have n0_ := wB BK263 hb
     have n1_ := wB BK264 hb
     have n2_ := wH hb
     clear BK263
     clear BK264
     clear HB
     have BK263 := n0_
     have BK264 := n1_
     have HB := n2_
     clear n0_ n1_ n2_
     (try clear hb)
     (try clear hb2)
     (try clear hk)
     (try clear hi)
     refine hK.out _ _ ⟨c0_ BK263, c1_ BK263, c0_ BK264, c1_ BK264, c2_ BK264⟩ (fun hHeld => ?_)
     clear hK K
     refine nS (some 13) ?_
     refine pU 2 (some 14) #[T_,T_,T_,F_,F_,F_,F_,F_,F_,F_,F_,F_,F_,F_,F_,F_,F_,F_,F_,F_,F_,F_,F_,F_,F_,F_,F_] HT_ ?_
     refine pU 3 (some 15) #[T_,T_,T_,T_,F_,F_,F_,F_,F_,F_,F_,F_,F_,F_,F_,F_,F_,F_,F_,F_,F_,F_,F_,F_,F_,F_,F_] HT_ ?_
     refine pU 4 (some 16) #[T_,T_,T_,T_,T_,F_,F_,F_,F_,F_,F_,F_,F_,F_,F_,F_,F_,F_,F_,F_,F_,F_,F_,F_,F_,F_,F_] HT_ ?_
     refine tK 5 (some 17) #[T_,T_,T_,T_,T_,T_,F_,F_,F_,F_,F_,F_,F_,F_,F_,F_,F_,F_,F_,F_,F_,F_,F_,F_,F_,F_,F_] HT_ HW_ hHeld ?_
     refine oN 6 (some 18) #[T_,T_,T_,T_,T_,T_,T_,F_,F_,F_,F_,F_,F_,F_,F_,F_,F_,F_,F_,F_,F_,F_,F_,F_,F_,F_,F_] HT_ (fun K hK => ?_)
     refine gO Try.func37 #[.int .i64 a1_0, .int .i64 0, .int .i64 1073741824] ?_
     with_reducible refine (journal_in.calls a1_0 0 1073741824 true _ A9.out).mono ?_
     rintro e w' ⟨rfl, ⟨nd, rfl⟩⟩
     refine ⟨_, rfl, ?_⟩
     refine hK.out _ _ ⟨c0_ BK263, c1_ BK263, c0_ BK264, c1_ BK264, c2_ BK264⟩ (fun hHeld => ?_)
     clear hK K
     refine nS (some 18) ?_
     refine pU 7 (some 19) #[T_,T_,T_,T_,T_,T_,T_,T_,F_,F_,F_,F_,F_,F_,F_,F_,F_,F_,F_,F_,F_,F_,F_,F_,F_,F_,F_] HT_ ?_
     refine pU 8 (some 20) #[T_,T_,T_,T_,T_,T_,T_,T_,T_,F_,F_,F_,F_,F_,F_,F_,F_,F_,F_,F_,F_,F_,F_,F_,F_,F_,F_] HT_ ?_
     refine pU 9 (some 21) #[T_,T_,T_,T_,T_,T_,T_,T_,T_,T_,F_,F_,F_,F_,F_,F_,F_,F_,F_,F_,F_,F_,F_,F_,F_,F_,F_] HT_ ?_
     refine pU 10 (some 22) #[T_,T_,T_,T_,T_,T_,T_,T_,T_,T_,T_,F_,F_,F_,F_,F_,F_,F_,F_,F_,F_,F_,F_,F_,F_,F_,F_] HT_ ?_
     refine pU 12 (some 24) #[T_,T_,T_,T_,T_,T_,T_,T_,T_,T_,T_,F_,T_,F_,F_,F_,F_,F_,F_,F_,F_,F_,F_,F_,F_,F_,F_] HT_ ?_
     refine tK 11 (some 23) #[T_,T_,T_,T_,T_,T_,T_,T_,T_,T_,T_,T_,T_,F_,F_,F_,F_,F_,F_,F_,F_,F_,F_,F_,F_,F_,F_] HT_ HW_ hHeld ?_
     refine tK 13 (some 25) #[T_,T_,T_,T_,T_,T_,T_,T_,T_,T_,T_,T_,T_,T_,F_,F_,F_,F_,F_,F_,F_,F_,F_,F_,F_,F_,F_] HT_ HW_ hHeld ?_
     refine pU 14 (some 26) #[T_,T_,T_,T_,T_,T_,T_,T_,T_,T_,T_,T_,T_,T_,T_,F_,F_,F_,F_,F_,F_,F_,F_,F_,F_,F_,F_] HT_ ?_
     refine tK 15 (some 27) #[T_,T_,T_,T_,T_,T_,T_,T_,T_,T_,T_,T_,T_,T_,T_,T_,F_,F_,F_,F_,F_,F_,F_,F_,F_,F_,F_] HT_ HW_ hHeld ?_
     refine oN 16 (some 28) #[T_,T_,T_,T_,T_,T_,T_,T_,T_,T_,T_,T_,T_,T_,T_,T_,T_,F_,F_,F_,F_,F_,F_,F_,F_,F_,F_] HT_ (fun K hK => ?_)
     refine gO Try.func35 #[.agg #[.int .i64 a0_0, .int .i64 a0_1]] ?_
     with_reducible refine (journal_Region_end.calls a0_0 a0_1 t267 _ A11.out).mono ?_
     rintro e w19 ⟨rfl, hb⟩
     refine ⟨_, rfl, ?_⟩
     have n0_ := wB BK263 hb
     have n1_ := wB BK264 hb
     have n2_ := wH hb
     clear BK263
     clear BK264
     clear HB
     have BK263 := n0_
     have BK264 := n1_
     have HB := n2_
     clear n0_ n1_ n2_
     (try clear hb)
     (try clear hb2)
     (try clear hk)
     (try clear hi)
     refine hK.out _ _ ⟨c0_ BK263, c1_ BK263, c0_ BK264, c1_ BK264, c2_ BK264⟩ (fun hHeld => ?_)
     clear hK K
     refine nS (some 28) ?_
     refine oN 17 (some 29) #[T_,T_,T_,T_,T_,T_,T_,T_,T_,T_,T_,T_,T_,T_,T_,T_,T_,T_,F_,F_,F_,F_,F_,F_,F_,F_,F_] HT_ (fun K hK => ?_)
     refine gO Try.func37 #[.int .i64 a1_2, .int .i64 (wrap64 (a0_0 + 1)), .int .i64 t267] ?_
     with_reducible refine (journal_in.calls a1_2 (wrap64 (a0_0 + 1)) t267 false _ A12.out).mono ?_
     rintro e w' ⟨rfl, ⟨nd, rfl⟩⟩
     refine ⟨_, rfl, ?_⟩
     refine hK.out _ _ ⟨c0_ BK263, c1_ BK263, c0_ BK264, c1_ BK264, c2_ BK264⟩ (fun hHeld => ?_)
     clear hK K
     refine nS (some 29) ?_
     refine pU 18 (some 30) #[T_,T_,T_,T_,T_,T_,T_,T_,T_,T_,T_,T_,T_,T_,T_,T_,T_,T_,T_,F_,F_,F_,F_,F_,F_,F_,F_] HT_ ?_
     refine pU 19 (some 31) #[T_,T_,T_,T_,T_,T_,T_,T_,T_,T_,T_,T_,T_,T_,T_,T_,T_,T_,T_,T_,F_,F_,F_,F_,F_,F_,F_] HT_ ?_
     refine pU 20 (some 32) #[T_,T_,T_,T_,T_,T_,T_,T_,T_,T_,T_,T_,T_,T_,T_,T_,T_,T_,T_,T_,T_,F_,F_,F_,F_,F_,F_] HT_ ?_
     refine pN 21 (some 33) #[T_,T_,T_,T_,T_,T_,T_,T_,T_,T_,T_,T_,T_,T_,T_,T_,T_,T_,T_,T_,T_,T_,F_,F_,F_,F_,F_] HT_ ?_
     refine pN 22 (some 34) #[T_,T_,T_,T_,T_,T_,T_,T_,T_,T_,T_,T_,T_,T_,T_,T_,T_,T_,T_,T_,T_,T_,T_,F_,F_,F_,F_] HT_ ?_
     refine pN 23 (some 35) #[T_,T_,T_,T_,T_,T_,T_,T_,T_,T_,T_,T_,T_,T_,T_,T_,T_,T_,T_,T_,T_,T_,T_,T_,F_,F_,F_] HT_ ?_
     refine pN 24 (some 36) #[T_,T_,T_,T_,T_,T_,T_,T_,T_,T_,T_,T_,T_,T_,T_,T_,T_,T_,T_,T_,T_,T_,T_,T_,T_,F_,F_] HT_ ?_
     refine pU 25 (some 37) #[T_,T_,T_,T_,T_,T_,T_,T_,T_,T_,T_,T_,T_,T_,T_,T_,T_,T_,T_,T_,T_,T_,T_,T_,T_,T_,F_] HT_ ?_
     refine pU 26 (some 11) #[T_,T_,T_,T_,T_,T_,T_,T_,T_,T_,T_,T_,T_,T_,T_,T_,T_,T_,T_,T_,T_,T_,T_,T_,T_,T_,T_] HT_ ?_
     refine done_ (done_of HT_.out (by kernel_rfl)) ?_
     try go_wp2
     go_meet
     case rel => exact ⟨_, (true), eY, H', ⟨by first | omega | exact Nat.le_refl _⟩, ⟨qB BK263⟩, ⟨qB BK264⟩, ⟨qH⟩⟩
   ·replace c10 := Bool.eq_false_iff.mpr c10
    subst c10
    rw [if_neg nF_] at H
    have H' := Aside0.mk H
    clear H
    try go_wp2
    have n0_ := Aside0.mk (xD_ BK263.out)
    have n1_ := Aside0.mk (xD_ BK264.out)
    have n2_ := Aside0.mk (yD_ HB.out)
    clear BK263
    clear BK264
    clear HB
    have BK263 := n0_
    have BK264 := n1_
    have HB := n2_
    clear n0_ n1_ n2_
    refine start_ (n := 27) (S := fun w' => w'.cell? ⟨gb263, 0, none⟩ = some (.int .i64 a0_0) ∧ w'.cell? ⟨gb263, 1, none⟩ = some (.int .i64 a0_1) ∧ w'.cell? ⟨gb264, 0, none⟩ = some (.int .i64 a1_0) ∧ w'.cell? ⟨gb264, 1, none⟩ = some (.slice A1_1 l1_1.length c1_1) ∧ w'.cell? ⟨gb264, 2, none⟩ = some (.int .i64 a1_2)) (ds := []) #[F_,F_,F_,F_,F_,F_,F_,F_,F_,F_,F_,F_,F_,F_,F_,F_,F_,F_,F_,F_,F_,F_,F_,F_,F_,F_,F_] (by kernel_rfl) rfl rfl ⟨c0_ BK263, c1_ BK263, c0_ BK264, c1_ BK264, c2_ BK264⟩ (fun hHeld => ?_); refine with_tabW journal_Add.tab1 journal_Add.bits1 (fun HT_ HW_ => ?_)
    generalize w6.drew = w20 at BK263 BK264 HB hHeld ⊢
    refine tK 0 (some 12) #[T_,F_,F_,F_,F_,F_,F_,F_,F_,F_,F_,F_,F_,F_,F_,F_,F_,F_,F_,F_,F_,F_,F_,F_,F_,F_,F_] HT_ HW_ hHeld ?_
    refine oN 1 (some 13) #[T_,T_,F_,F_,F_,F_,F_,F_,F_,F_,F_,F_,F_,F_,F_,F_,F_,F_,F_,F_,F_,F_,F_,F_,F_,F_,F_] HT_ (fun K hK => ?_)
    refine gO Try.func28 #[.agg #[.int .i64 a0_0, .int .i64 a0_1]] ?_
    with_reducible refine (journal_Region_Check.calls a0_0 a0_1 true _ A7.out).mono ?_
    rintro e w21 ⟨rfl, hb⟩
    refine ⟨_, rfl, ?_⟩
    have n0_ := wB BK263 hb
    have n1_ := wB BK264 hb
    have n2_ := wH hb
    clear BK263
    clear BK264
    clear HB
    have BK263 := n0_
    have BK264 := n1_
    have HB := n2_
    clear n0_ n1_ n2_
    (try clear hb)
    (try clear hb2)
    (try clear hk)
    (try clear hi)
    refine hK.out _ _ ⟨c0_ BK263, c1_ BK263, c0_ BK264, c1_ BK264, c2_ BK264⟩ (fun hHeld => ?_)
    clear hK K
    refine nS (some 13) ?_
    refine pU 2 (some 14) #[T_,T_,T_,F_,F_,F_,F_,F_,F_,F_,F_,F_,F_,F_,F_,F_,F_,F_,F_,F_,F_,F_,F_,F_,F_,F_,F_] HT_ ?_
    refine pU 3 (some 15) #[T_,T_,T_,T_,F_,F_,F_,F_,F_,F_,F_,F_,F_,F_,F_,F_,F_,F_,F_,F_,F_,F_,F_,F_,F_,F_,F_] HT_ ?_
    refine pU 4 (some 16) #[T_,T_,T_,T_,T_,F_,F_,F_,F_,F_,F_,F_,F_,F_,F_,F_,F_,F_,F_,F_,F_,F_,F_,F_,F_,F_,F_] HT_ ?_
    refine tK 5 (some 17) #[T_,T_,T_,T_,T_,T_,F_,F_,F_,F_,F_,F_,F_,F_,F_,F_,F_,F_,F_,F_,F_,F_,F_,F_,F_,F_,F_] HT_ HW_ hHeld ?_
    refine oN 6 (some 18) #[T_,T_,T_,T_,T_,T_,T_,F_,F_,F_,F_,F_,F_,F_,F_,F_,F_,F_,F_,F_,F_,F_,F_,F_,F_,F_,F_] HT_ (fun K hK => ?_)
    refine gO Try.func37 #[.int .i64 a1_0, .int .i64 0, .int .i64 1073741824] ?_
    with_reducible refine (journal_in.calls a1_0 0 1073741824 false _ A9.out).mono ?_
    rintro e w' ⟨rfl, ⟨nd, rfl⟩⟩
    refine ⟨_, rfl, ?_⟩
    refine hK.out _ _ ⟨c0_ BK263, c1_ BK263, c0_ BK264, c1_ BK264, c2_ BK264⟩ (fun hHeld => ?_)
    clear hK K
    refine nS (some 18) ?_
    refine pU 7 (some 19) #[T_,T_,T_,T_,T_,T_,T_,T_,F_,F_,F_,F_,F_,F_,F_,F_,F_,F_,F_,F_,F_,F_,F_,F_,F_,F_,F_] HT_ ?_
    refine pU 8 (some 20) #[T_,T_,T_,T_,T_,T_,T_,T_,T_,F_,F_,F_,F_,F_,F_,F_,F_,F_,F_,F_,F_,F_,F_,F_,F_,F_,F_] HT_ ?_
    refine pU 9 (some 21) #[T_,T_,T_,T_,T_,T_,T_,T_,T_,T_,F_,F_,F_,F_,F_,F_,F_,F_,F_,F_,F_,F_,F_,F_,F_,F_,F_] HT_ ?_
    refine pN 10 (some 22) #[T_,T_,T_,T_,T_,T_,T_,T_,T_,T_,T_,F_,F_,F_,F_,F_,F_,F_,F_,F_,F_,F_,F_,F_,F_,F_,F_] HT_ ?_
    refine pN 11 (some 23) #[T_,T_,T_,T_,T_,T_,T_,T_,T_,T_,T_,T_,F_,F_,F_,F_,F_,F_,F_,F_,F_,F_,F_,F_,F_,F_,F_] HT_ ?_
    refine pN 12 (some 24) #[T_,T_,T_,T_,T_,T_,T_,T_,T_,T_,T_,T_,T_,F_,F_,F_,F_,F_,F_,F_,F_,F_,F_,F_,F_,F_,F_] HT_ ?_
    refine pN 13 (some 25) #[T_,T_,T_,T_,T_,T_,T_,T_,T_,T_,T_,T_,T_,T_,F_,F_,F_,F_,F_,F_,F_,F_,F_,F_,F_,F_,F_] HT_ ?_
    refine pN 14 (some 26) #[T_,T_,T_,T_,T_,T_,T_,T_,T_,T_,T_,T_,T_,T_,T_,F_,F_,F_,F_,F_,F_,F_,F_,F_,F_,F_,F_] HT_ ?_
    refine pN 15 (some 27) #[T_,T_,T_,T_,T_,T_,T_,T_,T_,T_,T_,T_,T_,T_,T_,T_,F_,F_,F_,F_,F_,F_,F_,F_,F_,F_,F_] HT_ ?_
    refine pN 16 (some 28) #[T_,T_,T_,T_,T_,T_,T_,T_,T_,T_,T_,T_,T_,T_,T_,T_,T_,F_,F_,F_,F_,F_,F_,F_,F_,F_,F_] HT_ ?_
    refine pN 17 (some 29) #[T_,T_,T_,T_,T_,T_,T_,T_,T_,T_,T_,T_,T_,T_,T_,T_,T_,T_,F_,F_,F_,F_,F_,F_,F_,F_,F_] HT_ ?_
    refine pN 18 (some 30) #[T_,T_,T_,T_,T_,T_,T_,T_,T_,T_,T_,T_,T_,T_,T_,T_,T_,T_,T_,F_,F_,F_,F_,F_,F_,F_,F_] HT_ ?_
    refine pU 19 (some 31) #[T_,T_,T_,T_,T_,T_,T_,T_,T_,T_,T_,T_,T_,T_,T_,T_,T_,T_,T_,T_,F_,F_,F_,F_,F_,F_,F_] HT_ ?_
    refine pU 20 (some 32) #[T_,T_,T_,T_,T_,T_,T_,T_,T_,T_,T_,T_,T_,T_,T_,T_,T_,T_,T_,T_,T_,F_,F_,F_,F_,F_,F_] HT_ ?_
    refine pN 21 (some 33) #[T_,T_,T_,T_,T_,T_,T_,T_,T_,T_,T_,T_,T_,T_,T_,T_,T_,T_,T_,T_,T_,T_,F_,F_,F_,F_,F_] HT_ ?_
    refine pN 22 (some 34) #[T_,T_,T_,T_,T_,T_,T_,T_,T_,T_,T_,T_,T_,T_,T_,T_,T_,T_,T_,T_,T_,T_,T_,F_,F_,F_,F_] HT_ ?_
    refine pN 23 (some 35) #[T_,T_,T_,T_,T_,T_,T_,T_,T_,T_,T_,T_,T_,T_,T_,T_,T_,T_,T_,T_,T_,T_,T_,T_,F_,F_,F_] HT_ ?_
    refine pN 24 (some 36) #[T_,T_,T_,T_,T_,T_,T_,T_,T_,T_,T_,T_,T_,T_,T_,T_,T_,T_,T_,T_,T_,T_,T_,T_,T_,F_,F_] HT_ ?_
    refine pU 25 (some 37) #[T_,T_,T_,T_,T_,T_,T_,T_,T_,T_,T_,T_,T_,T_,T_,T_,T_,T_,T_,T_,T_,T_,T_,T_,T_,T_,F_] HT_ ?_
    refine pU 26 (some 11) #[T_,T_,T_,T_,T_,T_,T_,T_,T_,T_,T_,T_,T_,T_,T_,T_,T_,T_,T_,T_,T_,T_,T_,T_,T_,T_,T_] HT_ ?_
    refine done_ (done_of HT_.out (by kernel_rfl)) ?_
    try go_wp2
    go_meet
    case rel => exact ⟨_, (true), eY, H', ⟨by first | omega | exact Nat.le_refl _⟩, ⟨qB BK263⟩, ⟨qB BK264⟩, ⟨qH⟩⟩
  ·replace c8 := Bool.eq_false_iff.mpr c8
   subst c8
   rw [if_neg nF_] at H
   have H' := Aside0.mk H
   clear H
   try go_wp2
   have n0_ := Aside0.mk (xD_ BK263.out)
   have n1_ := Aside0.mk (xD_ BK264.out)
   have n2_ := Aside0.mk (yD_ HB.out)
   clear BK263
   clear BK264
   clear HB
   have BK263 := n0_
   have BK264 := n1_
   have HB := n2_
   clear n0_ n1_ n2_
   refine start_ (n := 27) (S := fun w' => w'.cell? ⟨gb263, 0, none⟩ = some (.int .i64 a0_0) ∧ w'.cell? ⟨gb263, 1, none⟩ = some (.int .i64 a0_1)) (ds := []) #[F_,F_,F_,F_,F_,F_,F_,F_,F_,F_,F_,F_,F_,F_,F_,F_,F_,F_,F_,F_,F_,F_,F_,F_,F_,F_,F_] (by kernel_rfl) rfl rfl ⟨c0_ BK263, c1_ BK263⟩ (fun hHeld => ?_); refine with_tabW journal_Add.tab1 journal_Add.bits1 (fun HT_ HW_ => ?_)
   generalize w6.drew = w22 at BK263 BK264 HB hHeld ⊢
   refine tK 0 (some 12) #[T_,F_,F_,F_,F_,F_,F_,F_,F_,F_,F_,F_,F_,F_,F_,F_,F_,F_,F_,F_,F_,F_,F_,F_,F_,F_,F_] HT_ HW_ hHeld ?_
   refine oN 1 (some 13) #[T_,T_,F_,F_,F_,F_,F_,F_,F_,F_,F_,F_,F_,F_,F_,F_,F_,F_,F_,F_,F_,F_,F_,F_,F_,F_,F_] HT_ (fun K hK => ?_)
   refine gO Try.func28 #[.agg #[.int .i64 a0_0, .int .i64 a0_1]] ?_
   with_reducible refine (journal_Region_Check.calls a0_0 a0_1 false _ A7.out).mono ?_
   rintro e w23 ⟨rfl, hb⟩
   refine ⟨_, rfl, ?_⟩
   have n0_ := wB BK263 hb
   have n1_ := wB BK264 hb
   have n2_ := wH hb
   clear BK263
   clear BK264
   clear HB
   have BK263 := n0_
   have BK264 := n1_
   have HB := n2_
   clear n0_ n1_ n2_
   (try clear hb)
   (try clear hb2)
   (try clear hk)
   (try clear hi)
   refine hK.out _ _ ⟨c0_ BK263, c1_ BK263⟩ (fun hHeld => ?_)
   clear hK K
   refine nS (some 13) ?_
   refine pU 2 (some 14) #[T_,T_,T_,F_,F_,F_,F_,F_,F_,F_,F_,F_,F_,F_,F_,F_,F_,F_,F_,F_,F_,F_,F_,F_,F_,F_,F_] HT_ ?_
   refine pU 3 (some 15) #[T_,T_,T_,T_,F_,F_,F_,F_,F_,F_,F_,F_,F_,F_,F_,F_,F_,F_,F_,F_,F_,F_,F_,F_,F_,F_,F_] HT_ ?_
   refine pN 4 (some 16) #[T_,T_,T_,T_,T_,F_,F_,F_,F_,F_,F_,F_,F_,F_,F_,F_,F_,F_,F_,F_,F_,F_,F_,F_,F_,F_,F_] HT_ ?_
   refine pN 5 (some 17) #[T_,T_,T_,T_,T_,T_,F_,F_,F_,F_,F_,F_,F_,F_,F_,F_,F_,F_,F_,F_,F_,F_,F_,F_,F_,F_,F_] HT_ ?_
   refine pN 6 (some 18) #[T_,T_,T_,T_,T_,T_,T_,F_,F_,F_,F_,F_,F_,F_,F_,F_,F_,F_,F_,F_,F_,F_,F_,F_,F_,F_,F_] HT_ ?_
   refine pN 7 (some 19) #[T_,T_,T_,T_,T_,T_,T_,T_,F_,F_,F_,F_,F_,F_,F_,F_,F_,F_,F_,F_,F_,F_,F_,F_,F_,F_,F_] HT_ ?_
   refine pU 8 (some 20) #[T_,T_,T_,T_,T_,T_,T_,T_,T_,F_,F_,F_,F_,F_,F_,F_,F_,F_,F_,F_,F_,F_,F_,F_,F_,F_,F_] HT_ ?_
   refine pU 9 (some 21) #[T_,T_,T_,T_,T_,T_,T_,T_,T_,T_,F_,F_,F_,F_,F_,F_,F_,F_,F_,F_,F_,F_,F_,F_,F_,F_,F_] HT_ ?_
   refine pN 10 (some 22) #[T_,T_,T_,T_,T_,T_,T_,T_,T_,T_,T_,F_,F_,F_,F_,F_,F_,F_,F_,F_,F_,F_,F_,F_,F_,F_,F_] HT_ ?_
   refine pN 11 (some 23) #[T_,T_,T_,T_,T_,T_,T_,T_,T_,T_,T_,T_,F_,F_,F_,F_,F_,F_,F_,F_,F_,F_,F_,F_,F_,F_,F_] HT_ ?_
   refine pN 12 (some 24) #[T_,T_,T_,T_,T_,T_,T_,T_,T_,T_,T_,T_,T_,F_,F_,F_,F_,F_,F_,F_,F_,F_,F_,F_,F_,F_,F_] HT_ ?_
   refine pN 13 (some 25) #[T_,T_,T_,T_,T_,T_,T_,T_,T_,T_,T_,T_,T_,T_,F_,F_,F_,F_,F_,F_,F_,F_,F_,F_,F_,F_,F_] HT_ ?_
   refine pN 14 (some 26) #[T_,T_,T_,T_,T_,T_,T_,T_,T_,T_,T_,T_,T_,T_,T_,F_,F_,F_,F_,F_,F_,F_,F_,F_,F_,F_,F_] HT_ ?_
   refine pN 15 (some 27) #[T_,T_,T_,T_,T_,T_,T_,T_,T_,T_,T_,T_,T_,T_,T_,T_,F_,F_,F_,F_,F_,F_,F_,F_,F_,F_,F_] HT_ ?_
   refine pN 16 (some 28) #[T_,T_,T_,T_,T_,T_,T_,T_,T_,T_,T_,T_,T_,T_,T_,T_,T_,F_,F_,F_,F_,F_,F_,F_,F_,F_,F_] HT_ ?_
   refine pN 17 (some 29) #[T_,T_,T_,T_,T_,T_,T_,T_,T_,T_,T_,T_,T_,T_,T_,T_,T_,T_,F_,F_,F_,F_,F_,F_,F_,F_,F_] HT_ ?_
   refine pN 18 (some 30) #[T_,T_,T_,T_,T_,T_,T_,T_,T_,T_,T_,T_,T_,T_,T_,T_,T_,T_,T_,F_,F_,F_,F_,F_,F_,F_,F_] HT_ ?_
   refine pU 19 (some 31) #[T_,T_,T_,T_,T_,T_,T_,T_,T_,T_,T_,T_,T_,T_,T_,T_,T_,T_,T_,T_,F_,F_,F_,F_,F_,F_,F_] HT_ ?_
   refine pU 20 (some 32) #[T_,T_,T_,T_,T_,T_,T_,T_,T_,T_,T_,T_,T_,T_,T_,T_,T_,T_,T_,T_,T_,F_,F_,F_,F_,F_,F_] HT_ ?_
   refine pN 21 (some 33) #[T_,T_,T_,T_,T_,T_,T_,T_,T_,T_,T_,T_,T_,T_,T_,T_,T_,T_,T_,T_,T_,T_,F_,F_,F_,F_,F_] HT_ ?_
   refine pN 22 (some 34) #[T_,T_,T_,T_,T_,T_,T_,T_,T_,T_,T_,T_,T_,T_,T_,T_,T_,T_,T_,T_,T_,T_,T_,F_,F_,F_,F_] HT_ ?_
   refine pN 23 (some 35) #[T_,T_,T_,T_,T_,T_,T_,T_,T_,T_,T_,T_,T_,T_,T_,T_,T_,T_,T_,T_,T_,T_,T_,T_,F_,F_,F_] HT_ ?_
   refine pN 24 (some 36) #[T_,T_,T_,T_,T_,T_,T_,T_,T_,T_,T_,T_,T_,T_,T_,T_,T_,T_,T_,T_,T_,T_,T_,T_,T_,F_,F_] HT_ ?_
   refine pU 25 (some 37) #[T_,T_,T_,T_,T_,T_,T_,T_,T_,T_,T_,T_,T_,T_,T_,T_,T_,T_,T_,T_,T_,T_,T_,T_,T_,T_,F_] HT_ ?_
   refine pU 26 (some 11) #[T_,T_,T_,T_,T_,T_,T_,T_,T_,T_,T_,T_,T_,T_,T_,T_,T_,T_,T_,T_,T_,T_,T_,T_,T_,T_,T_] HT_ ?_
   refine done_ (done_of HT_.out (by kernel_rfl)) ?_
   try go_wp2
   go_meet
   case rel => exact ⟨_, (true), eY, H', ⟨by first | omega | exact Nat.le_refl _⟩, ⟨qB BK263⟩, ⟨qB BK264⟩, ⟨qH⟩⟩
 case rest =>
  clear HC4
  (try clear p2); (try clear p6)
  obtain ⟨kq, x11_3, rfl, HA, HJ3, BK263, BK264, HB⟩ := hcut
  cases kq with
  | zero => exact absurd HA.out (by simp [journal_Add.j0])
  | succ kj3 =>
   have H := HA.out
   clear HA
   simp only [journal_Add.j0] at H
   by_cases c24 : x11_3 = true
   ·subst c24
    rw [if_pos rfl] at H
    simp only [Option.some.injEq, Prod.mk.injEq] at H
    obtain ⟨rfl, rfl⟩ := H
    go_wp2
    go_ret2
    exact ⟨_, eX, by first | exact Kd.R_nil _ _ _ _ _ | exact Kd.N_nil _ _ _ _ _ | exact Kd.V_nil _ _ _ _ _ | exact Kd.Q_nil _ _ _ _ _ | exact Kd.S_nil _ _ _ _ _, qH⟩
   ·replace c24 := Bool.eq_false_iff.mpr c24
    subst c24
    rw [if_neg nF_] at H
    by_cases c25 : (a2.size : Int) > 4096
    ·rw [if_pos c25] at H
     have c25b0 : decide (4096 < (a2.size : Int)) = true := decide_eq_true c25
     have c25b1 : decide (4096 < a2.size) = true := decide_eq_true (by omega)
     clear c25
     simp only [Option.some.injEq, Prod.mk.injEq] at H
     obtain ⟨rfl, rfl⟩ := H
     go_wp2
     go_ret2
     exact ⟨_, eX, by first | exact Kd.R_nil _ _ _ _ _ | exact Kd.N_nil _ _ _ _ _ | exact Kd.V_nil _ _ _ _ _ | exact Kd.Q_nil _ _ _ _ _ | exact Kd.S_nil _ _ _ _ _, qH⟩
    ·rw [if_neg c25] at H
     have c25b0 : decide (4096 < (a2.size : Int)) = false := decide_eq_false c25
     have c25b1 : decide (4096 < a2.size) = false := decide_eq_false (by omega)
     clear c25
     replace H := Option.bind_eq_some_iff.mp H
     obtain ⟨t269, A260, H⟩ := H
     try dsimp only at H
     have A26 := Aside0.mk A260
     clear A260
     replace H := Option.bind_eq_some_iff.mp H
     obtain ⟨t270, A270, H⟩ := H
     try dsimp only at H
     have A27 := Aside0.mk A270
     clear A270
     by_cases c28 : t269 ≥ (wrap64 (t270 - a1_2))
     ·rw [if_pos c28] at H
      have c28b0 : decide ((wrap64 (t270 - a1_2)) ≤ t269) = true := decide_eq_true c28
      clear c28
      simp only [Option.some.injEq, Prod.mk.injEq] at H
      obtain ⟨rfl, rfl⟩ := H
      try go_wp2
      have n0_ := Aside0.mk (xD_ BK263.out)
      have n1_ := Aside0.mk (xD_ BK264.out)
      have n2_ := Aside0.mk (yD_ HB.out)
      clear BK263
      clear BK264
      clear HB
      have BK263 := n0_
      have BK264 := n1_
      have HB := n2_
      clear n0_ n1_ n2_
      refine start_ (n := 10) (S := fun w' => w'.cell? ⟨gb263, 0, none⟩ = some (.int .i64 a0_0) ∧ w'.cell? ⟨gb263, 1, none⟩ = some (.int .i64 a0_1) ∧ w'.cell? ⟨gb264, 0, none⟩ = some (.int .i64 a1_0) ∧ w'.cell? ⟨gb264, 1, none⟩ = some (.slice A1_1 l1_1.length c1_1) ∧ w'.cell? ⟨gb264, 2, none⟩ = some (.int .i64 a1_2)) (ds := []) #[F_,F_,F_,F_,F_,F_,F_,F_,F_,F_] (by kernel_rfl) rfl rfl ⟨c0_ BK263, c1_ BK263, c0_ BK264, c1_ BK264, c2_ BK264⟩ (fun hHeld => ?_); refine with_tabW journal_Add.tab5 journal_Add.bits5 (fun HT_ HW_ => ?_)
      generalize wc.drew = w29 at BK263 BK264 HB hHeld ⊢
      refine pU 0 (some 43) #[T_,F_,F_,F_,F_,F_,F_,F_,F_,F_] HT_ ?_
      refine pU 1 (some 44) #[T_,T_,F_,F_,F_,F_,F_,F_,F_,F_] HT_ ?_
      refine pU 5 (some 48) #[T_,T_,F_,F_,F_,T_,F_,F_,F_,F_] HT_ ?_
      refine tK 3 (some 46) #[T_,T_,F_,T_,F_,T_,F_,F_,F_,F_] HT_ HW_ hHeld ?_
      refine tK 6 (some 49) #[T_,T_,F_,T_,F_,T_,T_,F_,F_,F_] HT_ HW_ hHeld ?_
      refine oN 2 (some 45) #[T_,T_,T_,T_,F_,T_,T_,F_,F_,F_] HT_ (fun K hK => ?_)
      refine gO Try.func43 #[.int .i64 (a2.size : Int)] ?_
      with_reducible refine (rec_Count.calls (a2.size : Int) t269 _ A26.out).mono ?_
      rintro e w' ⟨rfl, ⟨nd, rfl⟩⟩
      refine ⟨_, rfl, ?_⟩
      refine hK.out _ _ ⟨c0_ BK263, c1_ BK263, c0_ BK264, c1_ BK264, c2_ BK264⟩ (fun hHeld => ?_)
      clear hK K
      refine nS (some 45) ?_
      refine oN 4 (some 47) #[T_,T_,T_,T_,T_,T_,T_,F_,F_,F_] HT_ (fun K hK => ?_)
      refine gO Try.func35 #[.agg #[.int .i64 a0_0, .int .i64 a0_1]] ?_
      with_reducible refine (journal_Region_end.calls a0_0 a0_1 t270 _ A27.out).mono ?_
      rintro e w30 ⟨rfl, hb⟩
      refine ⟨_, rfl, ?_⟩
      have n0_ := wB BK263 hb
      have n1_ := wB BK264 hb
      have n2_ := wH hb
      clear BK263
      clear BK264
      clear HB
      have BK263 := n0_
      have BK264 := n1_
      have HB := n2_
      clear n0_ n1_ n2_
      (try clear hb)
      (try clear hb2)
      (try clear hk)
      (try clear hi)
      refine hK.out _ _ ⟨c0_ BK263, c1_ BK263, c0_ BK264, c1_ BK264, c2_ BK264⟩ (fun hHeld => ?_)
      clear hK K
      refine nS (some 47) ?_
      refine pU 7 (some 50) #[T_,T_,T_,T_,T_,T_,T_,T_,F_,F_] HT_ ?_
      refine pU 8 (some 51) #[T_,T_,T_,T_,T_,T_,T_,T_,T_,F_] HT_ ?_
      refine pU 9 (some 42) #[T_,T_,T_,T_,T_,T_,T_,T_,T_,T_] HT_ ?_
      refine done_ (done_of HT_.out (by kernel_rfl)) ?_
      try go_wp2
      go_ret2
      exact ⟨_, eX, by first | exact Kd.R_nil _ _ _ _ _ | exact Kd.N_nil _ _ _ _ _ | exact Kd.V_nil _ _ _ _ _ | exact Kd.Q_nil _ _ _ _ _ | exact Kd.S_nil _ _ _ _ _, qH⟩
     ·rw [if_neg c28] at H
      have c28b0 : decide ((wrap64 (t270 - a1_2)) ≤ t269) = false := decide_eq_false c28
      clear c28
      unfold journal_Add.tail at H
      obtain ⟨l, hl, H⟩ := Option.bind_eq_some_iff.1 H
      by_cases cl : l.length ≤ 10000
      rotate_left
      ·rw [if_neg cl] at H; cases H
      rw [if_pos cl] at H
      obtain ⟨y, hy, H⟩ := Option.bind_eq_some_iff.1 H
      obtain ⟨e1, e2⟩ := Prod.mk.inj (Option.some.inj H)
      subst e1
      subst e2
      have HY := Aside0.mk hy
      have HC := Aside0.mk hl
      have HL := Aside0.mk cl
      clear hy hl cl H
      try go_wp2
      have n0_ := Aside0.mk (xD_ BK263.out)
      have n1_ := Aside0.mk (xD_ BK264.out)
      have n2_ := Aside0.mk (yD_ HB.out)
      clear BK263
      clear BK264
      clear HB
      have BK263 := n0_
      have BK264 := n1_
      have HB := n2_
      clear n0_ n1_ n2_
      refine start_ (n := 10) (S := fun w' => w'.cell? ⟨gb263, 0, none⟩ = some (.int .i64 a0_0) ∧ w'.cell? ⟨gb263, 1, none⟩ = some (.int .i64 a0_1) ∧ w'.cell? ⟨gb264, 0, none⟩ = some (.int .i64 a1_0) ∧ w'.cell? ⟨gb264, 1, none⟩ = some (.slice A1_1 l1_1.length c1_1) ∧ w'.cell? ⟨gb264, 2, none⟩ = some (.int .i64 a1_2)) (ds := []) #[F_,F_,F_,F_,F_,F_,F_,F_,F_,F_] (by kernel_rfl) rfl rfl ⟨c0_ BK263, c1_ BK263, c0_ BK264, c1_ BK264, c2_ BK264⟩ (fun hHeld => ?_); refine with_tabW journal_Add.tab5 journal_Add.bits5 (fun HT_ HW_ => ?_)
      generalize wc.drew = w31 at BK263 BK264 HB hHeld ⊢
      refine pU 0 (some 43) #[T_,F_,F_,F_,F_,F_,F_,F_,F_,F_] HT_ ?_
      refine pU 1 (some 44) #[T_,T_,F_,F_,F_,F_,F_,F_,F_,F_] HT_ ?_
      refine pU 5 (some 48) #[T_,T_,F_,F_,F_,T_,F_,F_,F_,F_] HT_ ?_
      refine tK 3 (some 46) #[T_,T_,F_,T_,F_,T_,F_,F_,F_,F_] HT_ HW_ hHeld ?_
      refine tK 6 (some 49) #[T_,T_,F_,T_,F_,T_,T_,F_,F_,F_] HT_ HW_ hHeld ?_
      refine oN 2 (some 45) #[T_,T_,T_,T_,F_,T_,T_,F_,F_,F_] HT_ (fun K hK => ?_)
      refine gO Try.func43 #[.int .i64 (a2.size : Int)] ?_
      with_reducible refine (rec_Count.calls (a2.size : Int) t269 _ A26.out).mono ?_
      rintro e w' ⟨rfl, ⟨nd, rfl⟩⟩
      refine ⟨_, rfl, ?_⟩
      refine hK.out _ _ ⟨c0_ BK263, c1_ BK263, c0_ BK264, c1_ BK264, c2_ BK264⟩ (fun hHeld => ?_)
      clear hK K
      refine nS (some 45) ?_
      refine oN 4 (some 47) #[T_,T_,T_,T_,T_,T_,T_,F_,F_,F_] HT_ (fun K hK => ?_)
      refine gO Try.func35 #[.agg #[.int .i64 a0_0, .int .i64 a0_1]] ?_
      with_reducible refine (journal_Region_end.calls a0_0 a0_1 t270 _ A27.out).mono ?_
      rintro e w32 ⟨rfl, hb⟩
      refine ⟨_, rfl, ?_⟩
      have n0_ := wB BK263 hb
      have n1_ := wB BK264 hb
      have n2_ := wH hb
      clear BK263
      clear BK264
      clear HB
      have BK263 := n0_
      have BK264 := n1_
      have HB := n2_
      clear n0_ n1_ n2_
      (try clear hb)
      (try clear hb2)
      (try clear hk)
      (try clear hi)
      refine hK.out _ _ ⟨c0_ BK263, c1_ BK263, c0_ BK264, c1_ BK264, c2_ BK264⟩ (fun hHeld => ?_)
      clear hK K
      refine nS (some 47) ?_
      refine pU 7 (some 50) #[T_,T_,T_,T_,T_,T_,T_,T_,F_,F_] HT_ ?_
      refine pU 8 (some 51) #[T_,T_,T_,T_,T_,T_,T_,T_,T_,F_] HT_ ?_
      refine pU 9 (some 42) #[T_,T_,T_,T_,T_,T_,T_,T_,T_,T_] HT_ ?_
      refine done_ (done_of HT_.out (by kernel_rfl)) ?_
      go_upto_region 8 with (fail)
      obtain ⟨gb8, hg⟩ : ∃ g, g = w32.heap.size := ⟨_, rfl⟩
      obtain ⟨w8, hw8⟩ : ∃ W, W = (w32.alloc (Obj.cells #[Value.slice none 0 0] 82)) := ⟨_, rfl⟩
      rw [← hw8, ← hg]
      have hb : Below w32.heap.size w32 w8 := by rw [hw8]; exact ⟨rfl, rfl, rfl, by simp, fun k hk => Below.heap_alloc w32 _ k hk⟩
      have hbox : w8.heap[gb8]? = some (.cells #[.slice none 0 0] 82 (0, 0)) := by rw [hw8, hg]; exact blk_new w32 _
      have GE8 := Aside0.mk (show w.heap.size ≤ gb8 from by rw [hg]; exact below_size HB.out)
      have NE8 := Aside0.mk (show gb264 ≠ gb8 from by rw [hg]; exact Nat.ne_of_lt (blk_lt BK264.out))
      replace HB := Aside0.mk (below_step HB.out hb)
      replace BK264 := Aside0.mk (blk_below BK264.out hb)
      have BK8 := Aside0.mk hbox
      clear hb hbox hg hw8 hHeld BK263
      go_wp2_with (go_at_call 44; refine (rec_Cut.calls kj3 _ _ _ HC.out).mono ?_; rintro e w9 ⟨v0, rfl, hr, hb⟩; replace HB := Aside0.mk (below_step HB.out hb); replace BK264 := Aside0.mk (blk_below BK264.out hb); replace BK8 := Aside0.mk (blk_below BK8.out hb); clear hb; obtain ⟨A, c, ev⟩ := Kd.R_slice hr; subst ev; have HR := Aside0.mk (Kd.R_types (g := gb8) hr BK8.out (by decide)); clear hr; have HA := Aside0.mk (acts_first BK8.out); have HS := Aside0.mk (below_size HB.out))
      go_loopg [55] l.length (fun kq v55 W => ∃ (i : Nat) (pre : List S85), v55 = .int .i64 (i : Int) ∧ Aside0 (kq + i = l.length) ∧ Aside0 (pre ++ datas a1_2 i (l.drop i) = datas a1_2 0 l ∧ pre.length = i) ∧ Aside0 (ActsAt w9 gb8 pre W))
      case atStart => exact ⟨0, [], rfl, ⟨by omega⟩, ⟨rfl, rfl⟩, HA⟩
      case round =>
       clear HA
       obtain ⟨i, pre, rfl, HI, HX, HA⟩ := hrel
       cases gk with
       | zero =>
        have d0 : decide ((i : Int) < (l.length : Int)) = false := decide_eq_false (by have := HI.out; omega)
        have d1 : decide (i < l.length) = false := decide_eq_false (by have := HI.out; omega)
        have HE := Aside0.mk (show datas a1_2 0 l = pre from by rw [← HX.out.1, List.drop_of_length_le (by have := HI.out; omega)]; simp [datas])
        have HPL := Aside0.mk (show pre.length ≤ 10000 from by have := HX.out.2; have := HI.out; have := HL.out; omega)
        go_wp2_with (first
         | (go_at_call 46; refine (acts_flush w9 gb8 _ _ _ BK8.out HA.out (by have := HPL.out; omega)).mono ?_; rintro e w10 ⟨rfl, ha⟩; replace HA := Aside0.mk ha; clear ha; have hbq := acts_block HA.out BK264.out NE8.out; have hcq_0 := (xC_ hbq 0).trans (show _ = some (Value.int .i64 a1_0) from rfl); have hcq_1 := (xC_ hbq 1).trans (show _ = some (Value.slice A1_1 l1_1.length c1_1) from rfl); have hcq_2 := (xC_ hbq 2).trans (show _ = some (Value.int .i64 a1_2) from rfl); have hfq_0 := xF_ hbq 0; have hfq_1 := xF_ hbq 1; have hfq_2 := xF_ hbq 2; clear hbq)
         | (go_at_call 38; go_loud (refine (acts_head kj3 w9 gb8 _ _ y _ _ _ _ _ _ BK8.out HA.out (by have := HPL.out; rw [List.length_append, List.length_singleton]; omega) HY.out).mono ?_; rintro e w11 ⟨rfl, ha⟩; clear hcq_0 hcq_1 hcq_2 hfq_0 hfq_1 hfq_2; have HBF := Aside0.mk (acts_below ha HB.out HS.out GE8.out); obtain ⟨v, -, hvb, hvr⟩ := ha; have HVR := Aside0.mk hvr; obtain ⟨Ao, co, eo⟩ := Kd.R_slice hvr; obtain ⟨nq, enq⟩ : ∃ n, n = (pre ++ [(⟨true, 0, ⟨#[]⟩⟩ : S85)] ++ y).length := ⟨_, rfl⟩; rw [← enq] at eo; clear enq; subst eo; have hcx_0 := (xC_ hvb 0).trans (show _ = some (Value.slice Ao nq co) from rfl); have hfx_0 := xF_ hvb 0; clear hvb hvr)))

        go_ret2
        rw [HE.out]
        exact ⟨_, rfl, Kd.R_mono (Kd.R_lower HVR.out HS.out) (fun _ _ => trivial), HBF.out⟩
       | succ k1 =>
        have hlt : i < l.length := by have := HI.out; omega
        obtain ⟨x, r, hxr⟩ : ∃ x r, l.drop i = x :: r := ⟨_, _, List.drop_eq_getElem_cons hlt⟩
        obtain ⟨hx, -, hd⟩ := rdOf_drop hxr
        have d0 : decide ((i : Int) < (l.length : Int)) = true := decide_eq_true (by omega)
        have d1 : decide (i < l.length) = true := decide_eq_true hlt
        have p0 : (0 : Int) ≤ (i : Int) := by omega
        have p1 : (i : Int) < (l.length : Int) := by omega
        have hw1 : IntKind.i64.wrap ((i : Int) + 1) = (i : Int) + 1 := by rw [IntKind.wrap_i64]; have := HL.out; omega
        have hrw := acts_row HA.out HR.out (fun _ hk => hk.2)
        obtain ⟨ad, e1, hx0⟩ := Kd.at_string (Kd.R_reads' hrw).2.2 (i : Int) p0 p1
        rw [hx, Int.toNat_natCast] at hx0
        have HRW := Aside0.mk (show (pre ++ [(⟨false, wrap64 (wrap64 (a1_2 + 1) + (i : Int)), x⟩ : S85)]) ++ datas a1_2 (i + 1) r = datas a1_2 0 l from by rw [← HX.out.1, hxr, List.append_assoc]; rfl)
        have HD := Aside0.mk hd
        have HLT := Aside0.mk hlt
        have hbq := acts_block HA.out BK264.out NE8.out
        have hcq_2 := (xC_ hbq 2).trans (show _ = some (Value.int .i64 a1_2) from rfl)
        have hfq_2 := xF_ hbq 2
        subst e1
        clear hx hxr hd hlt hrw hbq
        go_wp2_with (go_at_call 45; refine (acts_write w9 gb8 _ _ _ _ _ BK8.out HA.out (by have := HX.out.2; have := HI.out; have := HL.out; omega)).mono ?_; rintro e w10 ⟨rfl, ha⟩; replace HA := Aside0.mk ha; clear ha hcq_2 hfq_2 hx0)
        go_roundg k1
        case measure => omega
        case rel => exact ⟨i + 1, _, by simp, ⟨by have := HI.out; omega⟩, ⟨by rw [HD.out]; exact HRW.out, by rw [List.length_append, HX.out.2]; rfl⟩, HA⟩
end Go.Proofs.Ythoddglnfdmdeaa.P
set_option linter.unusedVariables false
set_option linter.unusedSimpArgs false
namespace Go.Proofs.Ythoddglnfdmdeaa.P
open Go.RowKit Go.Shelf Go.Proofs.YthoddglnfdmdeaaW.PrintWords Go.Proofs.YthoddglnfdmdeaaW.PrintLast Go.Proofs.YthoddglnfdmdeaaW.PrintMore
theorem rec_Join.calls (k : Nat) (A0 : Option Addr) (c0 : Nat) (l0 : List ByteArray) (a1 : Int) (r1 : ByteArray) (r2 : Bool) (w : World) (hr0 : Kd.C Kd.string w A0 l0.length l0) (hc0 : l0.length ≤ c0) (h : rec_Join.f k l0 a1 = some (r1, r2)) :
    Calls Try.prog 56 #[.slice A0 l0.length c0, .int .i64 a1] w fun e w' => e = .returned (.tuple #[.string r1, .bool r2]) ∧ Below w.heap.size w w' := by
  unfold rec_Join.f at h
  obtain ⟨n, hn, h⟩ := Option.bind_eq_some_iff.mp h
  by_cases c1 : n = (l0.length : Int)
  · rw [if_pos c1] at h
    by_cases c2 : odd32 l0 = true
    · rw [if_pos c2] at h
      simp only [Option.some.injEq, Prod.mk.injEq] at h
      obtain ⟨rfl, rfl⟩ := h
      exact join_odd A0 c0 l0 a1 n w hr0 hc0 hn c1 c2
    · rw [if_neg c2] at h
      by_cases c3 : l0.length ≤ 4000000000000
      · rw [if_pos c3] at h
        by_cases c4 : 0 ≤ a1
        · rw [if_pos c4] at h
          by_cases c5 : a1 ≤ ((joined l0).size : Int)
          · rw [if_pos c5] at h
            obtain ⟨cs, hcs, h⟩ := Option.bind_eq_some_iff.mp h
            obtain ⟨q, hq, h⟩ := Option.bind_eq_some_iff.mp h
            have hy := join_yes k A0 c0 l0 a1 n cs w hr0 hc0 hn c1 (Bool.eq_false_iff.mpr c2) c3 c4 c5 hcs q hq
            cases q with
            | true =>
              simp only [if_true, Option.some.injEq, Prod.mk.injEq] at h
              obtain ⟨rfl, rfl⟩ := h
              exact hy
            | false =>
              simp only [Bool.false_eq_true, if_false, Option.some.injEq, Prod.mk.injEq] at h
              obtain ⟨rfl, rfl⟩ := h
              exact hy
          · rw [if_neg c5] at h; cases h
        · rw [if_neg c4] at h; cases h
      · rw [if_neg c3] at h; cases h
  · rw [if_neg c1] at h
    simp only [Option.some.injEq, Prod.mk.injEq] at h
    obtain ⟨rfl, rfl⟩ := h
    exact join_no A0 c0 l0 a1 n w hr0 hc0 hn c1
end Go.Proofs.Ythoddglnfdmdeaa.P
