/- Printed functions, merged. -/
import Derived.Test.YthoddglnfdmdeaaZJSM0
import Derived.Test.YthoddglnfdmdeaaZJSM2
import Derived.Test.YthoddglnfdmdeaaZJSH4
import Derived.Test.YthoddglnfdmdeaaZJSH1
import Derived.Test.YthoddglnfdmdeaaZJSH0
import Derived.Outline
import Derived.Sort.AtCall
import Derived.Test.YthoddglnfdmdeaaZJSH3
import Derived.Test.YthoddglnfdmdeaaZJSAl
namespace Go.Proofs.Ythoddglnfdmdeaa.P
open Go.RowKit Go.Proofs.YthoddglnfdmdeaaW.PrintWords Go.Proofs.YthoddglnfdmdeaaW.PrintLast Go.Proofs.YthoddglnfdmdeaaW.PrintMore
attribute [local go_sem] max2_int min2_int max_two min_two max_three min_three max_four min_four   -- for this text's walks alone
set_option linter.unusedVariables false
set_option linter.unusedSimpArgs false
def rec_Head_Text.f (k : Nat) (a0_0 : Int) (a0_1 : Int) (a0_2 : Int) (a0_3 : Int) (a0_4 : Int) : Option (ByteArray × Bool) := (rec_Head_may.f k a0_0 a0_1 a0_2 a0_3 a0_4).bind fun t148 => (if t148 = true then ((some (([(a0_0) % 256] : List Int) : List Int)).bind fun y149 => (if 1 + (strOfNums y149).size ≤ 9223372036854775807 then ((rec_bytes.f k (([a0_1, a0_2, a0_3, a0_4] : List Int))).bind fun t155 => (if ((⟨#[72]⟩ : ByteArray) ++ (strOfNums y149)).size + t155.size ≤ 9223372036854775807 then ((rec_filled.f (((⟨#[72]⟩ : ByteArray) ++ (strOfNums y149)) ++ t155)).bind fun t156 => (some (t156, true))) else (none))) else (none))) else (some ((⟨#[]⟩ : ByteArray), false)))
theorem rec_Head_Text.mono : ∀ a0 a1 a2 a3 a4 k, LeO (rec_Head_Text.f k a0 a1 a2 a3 a4) (rec_Head_Text.f (k + 1) a0 a1 a2 a3 a4) := by
 intro a0 a1 a2 a3 a4 k
 unfold rec_Head_Text.f
 repeat' first
   | (with_reducible exact rec_Head_may.mono _ _ _ _ _ _)
   | (with_reducible exact rec_bytes.mono _ _)
   | (with_reducible exact LeO.refl _)
   | (with_reducible exact LeO.none _)
   | (with_reducible refine LeO.ite ?_ ?_)
   | (with_reducible refine LeO.bind ?_ (fun _ => ?_))
   | exact rec_Head_may.mono _ _ _ _ _ _
   | exact rec_bytes.mono _ _
   | exact LeO.none _
   | refine LeO.ite ?_ ?_
   | refine LeO.bind ?_ (fun _ => ?_)
def rec_Head_Text.T3 : Bool × List (List Nat × List Nat) := (true, [([], []), ([0], [0]), ([1], [1]), ([2], [2]), ([3], [3]), ([4], [4]), ([], []), ([6], [6]), ([], []), ([8], [8]), ([], []), ([10], [10]), ([], []), ([12], [12]), ([7, 9, 11, 13], [7, 9, 11, 13]), ([14], [14]), ([5, 15], [5, 15]), ([16, 15], [16]), ([17, 17, 0, 1, 2, 3, 4, 5, 6, 7, 8, 9, 10, 11, 12, 13, 14, 15, 16, 17], [17]), ([18, 0, 1, 2, 3, 4, 5, 6, 7, 8, 9, 10, 11, 12, 13, 14, 15, 16, 17, 18], [])])
def rec_Head_Text.B3 : List Nat := [0, 1, 3, 7, 15, 31, 0, 64, 0, 256, 0, 1024, 0, 4096, 16320, 32704, 65535, 131071, 262143, 524287]
theorem rec_Head_Text.tab3 : rtab .any (opsOf Try.f57 3) = rec_Head_Text.T3 := by kernel_rfl
theorem rec_Head_Text.bits3 : waitsOk rec_Head_Text.T3.2 rec_Head_Text.B3 = true := by kernel_rfl
set_option maxHeartbeats 8000000 in
set_option maxRecDepth 100000 in
theorem rec_Head_Text.calls (k : Nat) (a0_0 : Int) (a0_1 : Int) (a0_2 : Int) (a0_3 : Int) (a0_4 : Int) (r1 : ByteArray) (r2 : Bool) (w : World) (h : rec_Head_Text.f k a0_0 a0_1 a0_2 a0_3 a0_4 = some (r1, r2)) :
  Calls Try.prog 57 #[.agg #[.int .i64 a0_0, .int .i64 a0_1, .int .i64 a0_2, .int .i64 a0_3, .int .i64 a0_4]] w fun e w' => e = .returned (.tuple #[.string r1, .bool r2]) ∧ Below w.heap.size w w' := by
 have hu73 := Try.underlying73
 have HB := Aside0.mk (Below.refl w.heap.size w)
 have H := h
 unfold rec_Head_Text.f at H
 clear h
 replace H := Option.bind_eq_some_iff.mp H
 obtain ⟨t148, A20, H⟩ := H
 try dsimp only at H
 have A2 := Aside0.mk A20
 clear A20
 by_cases c3 : t148 = true
 ·subst c3
  rw [if_pos rfl] at H
  obtain ⟨y149, hy149⟩ : ∃ y_ : List Int, y_ = (([(a0_0) % 256] : List Int)) := ⟨_, rfl⟩
  replace H : (if 1 + (strOfNums y149).size ≤ 9223372036854775807 then ((rec_bytes.f k (([a0_1, a0_2, a0_3, a0_4] : List Int))).bind fun t155 => (if ((⟨#[72]⟩ : ByteArray) ++ (strOfNums y149)).size + t155.size ≤ 9223372036854775807 then ((rec_filled.f (((⟨#[72]⟩ : ByteArray) ++ (strOfNums y149)) ++ t155)).bind fun t156 => (some (t156, true))) else (none))) else (none)) = some (r1, r2) := by first | (rw [hy149]; with_reducible exact H) | (have H2_ := (Option.bind_some _ _).symm.trans H; rw [hy149]; with_reducible exact H2_) | (have H2_ := (Option.bind_some _ _).symm.trans H; with_reducible exact H2_) | with_reducible exact H | (rw [hy149]; exact H) | exact H
  have Ny149 := Aside0.mk hy149
  clear hy149
  by_cases c4 : 1 + (strOfNums y149).size ≤ 9223372036854775807
  ·rw [if_pos c4] at H
   have c4b0 := eq_true c4
   have c4b1 : decide (1 + (strOfNums y149).size ≤ 9223372036854775807) = true := decide_eq_true c4
   try have c4b2 : (9223372036854775807 < 1 + (strOfNums y149).size) = False := eq_false (Nat.not_lt.2 c4)
   obtain ⟨y152, hy152⟩ : ∃ y_ : List Int, y_ = (([a0_1, a0_2, a0_3, a0_4] : List Int)) := ⟨_, rfl⟩
   replace H : ((rec_bytes.f k y152).bind fun t155 => (if ((⟨#[72]⟩ : ByteArray) ++ (strOfNums y149)).size + t155.size ≤ 9223372036854775807 then ((rec_filled.f (((⟨#[72]⟩ : ByteArray) ++ (strOfNums y149)) ++ t155)).bind fun t156 => (some (t156, true))) else (none))) = some (r1, r2) := by first | (rw [hy152]; with_reducible exact H) | (have H2_ := (Option.bind_some _ _).symm.trans H; rw [hy152]; with_reducible exact H2_) | (have H2_ := (Option.bind_some _ _).symm.trans H; with_reducible exact H2_) | with_reducible exact H | (rw [hy152]; exact H) | exact H
   have Ny152 := Aside0.mk hy152
   clear hy152
   replace H := Option.bind_eq_some_iff.mp H
   obtain ⟨t155, A50, H⟩ := H
   try dsimp only at H
   have A5 := Aside0.mk A50
   clear A50
   by_cases c6 : ((⟨#[72]⟩ : ByteArray) ++ (strOfNums y149)).size + t155.size ≤ 9223372036854775807
   ·rw [if_pos c6] at H
    have c6b0 := eq_true c6
    have c6b1 : decide (((⟨#[72]⟩ : ByteArray) ++ (strOfNums y149)).size + t155.size ≤ 9223372036854775807) = true := decide_eq_true c6
    try have c6b2 : (9223372036854775807 < ((⟨#[72]⟩ : ByteArray) ++ (strOfNums y149)).size + t155.size) = False := eq_false (Nat.not_lt.2 c6)
    (try (have c6b3 := c6; simp only [show (⟨#[72]⟩ : ByteArray).size = 1 from rfl, ByteArray.size_append, ByteArray.size_extract] at c6b3; have c6b4 := eq_true c6b3; have c6b5 := decide_eq_true c6b3; have c6b6 := eq_false (Nat.not_lt.2 c6b3)))
    replace H := Option.bind_eq_some_iff.mp H
    obtain ⟨t156, A70, H⟩ := H
    try dsimp only at H
    have A7 := Aside0.mk A70
    clear A70
    simp only [Option.some.injEq, Prod.mk.injEq] at H
    obtain ⟨rfl, rfl⟩ := H
    go_enter Try.func57, Try.ntmps57
    try go_wp2_with (first | ((with_reducible refine gate_dst (N := 1) rfl ?_); refine bE (N := 1) (cs := #[.int .i64 a0_0, .int .i64 a0_1, .int .i64 a0_2, .int .i64 a0_3, .int .i64 a0_4]) (t := 73) ?_; intro gb147 hg w8 hbox hb; have n0_ := wH hb; have n1_ := Aside0.mk (hbox); have n2_ := Aside0.mk ((qG hg)); have n3_ := Aside0.mk ((qG hg)); clear HB; have HB := n0_; have BK147 := n1_; have GE147 := n3_; clear n0_ n1_ n2_ n3_; clear hb hbox hg; obtain ⟨hcz9_0, hcz9_1, hcz9_2, hcz9_3, hcz9_4, hfz9_0, hfz9_1, hfz9_2, hfz9_3, hfz9_4⟩ := e5_ BK147) | ((with_reducible refine gate_callee (f := 55) rfl ?_); refine gL (some 5) Try.func55 #[.agg #[.int .i64 a0_0, .int .i64 a0_1, .int .i64 a0_2, .int .i64 a0_3, .int .i64 a0_4]] ?_; (with_reducible refine (rec_Head_may.calls k a0_0 a0_1 a0_2 a0_3 a0_4 true _ A2.out).mono ?_); rintro e w10 ⟨rfl, hb⟩; refine ⟨_, rfl, ?_⟩; have n0_ := wB BK147 hb; have n1_ := wH hb; clear BK147; clear HB; have BK147 := n0_; have HB := n1_; clear n0_ n1_; (try clear hb); (try clear hb2); (try clear hk); (try clear hi)))
    have n0_ := Aside0.mk (xD_ BK147.out)
    have n1_ := Aside0.mk (yD_ HB.out)
    clear BK147
    clear HB
    have BK147 := n0_
    have HB := n1_
    clear n0_ n1_
    refine start_ (n := 20) (S := fun w' => w'.cell? ⟨gb147, 0, none⟩ = some (.int .i64 a0_0) ∧ w'.cell? ⟨gb147, 1, none⟩ = some (.int .i64 a0_1) ∧ w'.cell? ⟨gb147, 2, none⟩ = some (.int .i64 a0_2) ∧ w'.cell? ⟨gb147, 3, none⟩ = some (.int .i64 a0_3) ∧ w'.cell? ⟨gb147, 4, none⟩ = some (.int .i64 a0_4)) (ds := []) #[F_,F_,F_,F_,F_,F_,F_,F_,F_,F_,F_,F_,F_,F_,F_,F_,F_,F_,F_,F_] (by kernel_rfl) rfl rfl ⟨c0_ BK147, c1_ BK147, c2_ BK147, c3_ BK147, c4_ BK147⟩ (fun hHeld => ?_); refine with_tabW rec_Head_Text.tab3 rec_Head_Text.bits3 (fun HT_ HW_ => ?_)
    generalize w10.drew = w11 at BK147 HB hHeld ⊢
    refine pU 0 (some 7) #[T_,F_,F_,F_,F_,F_,F_,F_,F_,F_,F_,F_,F_,F_,F_,F_,F_,F_,F_,F_] HT_ ?_
    refine pU 6 (some 13) #[T_,F_,F_,F_,F_,F_,T_,F_,F_,F_,F_,F_,F_,F_,F_,F_,F_,F_,F_,F_] HT_ ?_
    refine pU 8 (some 15) #[T_,F_,F_,F_,F_,F_,T_,F_,T_,F_,F_,F_,F_,F_,F_,F_,F_,F_,F_,F_] HT_ ?_
    refine pU 10 (some 17) #[T_,F_,F_,F_,F_,F_,T_,F_,T_,F_,T_,F_,F_,F_,F_,F_,F_,F_,F_,F_] HT_ ?_
    refine pU 12 (some 19) #[T_,F_,F_,F_,F_,F_,T_,F_,T_,F_,T_,F_,T_,F_,F_,F_,F_,F_,F_,F_] HT_ ?_
    refine tK 1 (some 8) #[T_,T_,F_,F_,F_,F_,T_,F_,T_,F_,T_,F_,T_,F_,F_,F_,F_,F_,F_,F_] HT_ HW_ hHeld ?_
    refine pU 2 (some 9) #[T_,T_,T_,F_,F_,F_,T_,F_,T_,F_,T_,F_,T_,F_,F_,F_,F_,F_,F_,F_] HT_ ?_
    refine tK 7 (some 14) #[T_,T_,T_,F_,F_,F_,T_,T_,T_,F_,T_,F_,T_,F_,F_,F_,F_,F_,F_,F_] HT_ HW_ hHeld ?_
    refine tK 9 (some 16) #[T_,T_,T_,F_,F_,F_,T_,T_,T_,T_,T_,F_,T_,F_,F_,F_,F_,F_,F_,F_] HT_ HW_ hHeld ?_
    refine tK 11 (some 18) #[T_,T_,T_,F_,F_,F_,T_,T_,T_,T_,T_,T_,T_,F_,F_,F_,F_,F_,F_,F_] HT_ HW_ hHeld ?_
    refine tK 13 (some 20) #[T_,T_,T_,F_,F_,F_,T_,T_,T_,T_,T_,T_,T_,T_,F_,F_,F_,F_,F_,F_] HT_ HW_ hHeld ?_
    refine join_ (σ := Value × Value) 4 #[T_,T_,T_,T_,T_,T_,T_,T_,T_,T_,T_,T_,T_,T_,T_,T_,F_,F_,F_,F_] (fun s_ => [(10, s_.1), (11, .string (strOfNums y149)), (21, s_.2), (22, .string t155), (12, .string ((⟨#[72]⟩ : ByteArray) ++ (strOfNums y149)))]) (fun s_ w' => (w'.cell? ⟨gb147, 0, none⟩ = some (.int .i64 a0_0) ∧ w'.cell? ⟨gb147, 1, none⟩ = some (.int .i64 a0_1) ∧ w'.cell? ⟨gb147, 2, none⟩ = some (.int .i64 a0_2) ∧ w'.cell? ⟨gb147, 3, none⟩ = some (.int .i64 a0_3) ∧ w'.cell? ⟨gb147, 4, none⟩ = some (.int .i64 a0_4)) ∧ (Kd.R (Kd.int .u8) 5 w' w.heap.size (fun _ => True) s_.1 y149) ∧ (Kd.R (Kd.int .i64) 3 w' w.heap.size (fun _ => True) s_.2 y152) ∧ (w'.heap[gb147]? = some (.cells #[.int .i64 a0_0, .int .i64 a0_1, .int .i64 a0_2, .int .i64 a0_3, .int .i64 a0_4] 73 (0, 0))) ∧ (Below w.heap.size w w')) ?_ ?_
    rotate_left
    ·intro hJ3_4_14_15
     refine join_ (σ := Value × Value) 5 #[T_,T_,T_,T_,T_,T_,T_,T_,T_,T_,T_,T_,T_,T_,T_,F_,F_,F_,F_,F_] (fun s_ => [(10, s_.1), (11, .string (strOfNums y149)), (21, s_.2), (12, .string ((⟨#[72]⟩ : ByteArray) ++ (strOfNums y149)))]) (fun s_ w' => (w'.cell? ⟨gb147, 0, none⟩ = some (.int .i64 a0_0) ∧ w'.cell? ⟨gb147, 1, none⟩ = some (.int .i64 a0_1) ∧ w'.cell? ⟨gb147, 2, none⟩ = some (.int .i64 a0_2) ∧ w'.cell? ⟨gb147, 3, none⟩ = some (.int .i64 a0_3) ∧ w'.cell? ⟨gb147, 4, none⟩ = some (.int .i64 a0_4)) ∧ (Kd.R (Kd.int .u8) 5 w' w.heap.size (fun _ => True) s_.1 y149) ∧ (Kd.R (Kd.int .i64) 3 w' w.heap.size (fun _ => True) s_.2 y152) ∧ (w'.heap[gb147]? = some (.cells #[.int .i64 a0_0, .int .i64 a0_1, .int .i64 a0_2, .int .i64 a0_3, .int .i64 a0_4] 73 (0, 0))) ∧ (Below w.heap.size w w')) ?_ ?_
     rotate_left
     ·intro hJ3_4_14
      refine join_ (σ := Value × Value) 6 #[T_,T_,T_,T_,F_,F_,T_,T_,T_,T_,T_,T_,T_,T_,T_,T_,F_,F_,F_,F_] (fun s_ => [(10, s_.1), (21, s_.2), (22, .string t155)]) (fun s_ w' => (w'.cell? ⟨gb147, 0, none⟩ = some (.int .i64 a0_0) ∧ w'.cell? ⟨gb147, 1, none⟩ = some (.int .i64 a0_1) ∧ w'.cell? ⟨gb147, 2, none⟩ = some (.int .i64 a0_2) ∧ w'.cell? ⟨gb147, 3, none⟩ = some (.int .i64 a0_3) ∧ w'.cell? ⟨gb147, 4, none⟩ = some (.int .i64 a0_4)) ∧ (Kd.R (Kd.int .u8) 5 w' w.heap.size (fun _ => True) s_.1 y149) ∧ (Kd.R (Kd.int .i64) 3 w' w.heap.size (fun _ => True) s_.2 y152) ∧ (w'.heap[gb147]? = some (.cells #[.int .i64 a0_0, .int .i64 a0_1, .int .i64 a0_2, .int .i64 a0_3, .int .i64 a0_4] 73 (0, 0))) ∧ (Below w.heap.size w w')) ?_ ?_
      rotate_left
      ·intro hJ3_14_15
       refine join_ (σ := Value) 6 #[T_,T_,T_,T_,T_,T_,T_,T_,T_,T_,T_,T_,T_,T_,F_,F_,F_,F_,F_,F_] (fun s_ => [(10, s_), (11, .string (strOfNums y149)), (12, .string ((⟨#[72]⟩ : ByteArray) ++ (strOfNums y149)))]) (fun s_ w' => (w'.cell? ⟨gb147, 0, none⟩ = some (.int .i64 a0_0) ∧ w'.cell? ⟨gb147, 1, none⟩ = some (.int .i64 a0_1) ∧ w'.cell? ⟨gb147, 2, none⟩ = some (.int .i64 a0_2) ∧ w'.cell? ⟨gb147, 3, none⟩ = some (.int .i64 a0_3) ∧ w'.cell? ⟨gb147, 4, none⟩ = some (.int .i64 a0_4)) ∧ (Kd.R (Kd.int .u8) 5 w' w.heap.size (fun _ => True) s_ y149) ∧ (w'.heap[gb147]? = some (.cells #[.int .i64 a0_0, .int .i64 a0_1, .int .i64 a0_2, .int .i64 a0_3, .int .i64 a0_4] 73 (0, 0))) ∧ (Below w.heap.size w w')) ?_ ?_
       rotate_left
       ·intro hJ3_4
        refine join_ (σ := Value × Value) 7 #[T_,T_,T_,T_,F_,F_,T_,T_,T_,T_,T_,T_,T_,T_,T_,F_,F_,F_,F_,F_] (fun s_ => [(10, s_.1), (21, s_.2)]) (fun s_ w' => (w'.cell? ⟨gb147, 0, none⟩ = some (.int .i64 a0_0) ∧ w'.cell? ⟨gb147, 1, none⟩ = some (.int .i64 a0_1) ∧ w'.cell? ⟨gb147, 2, none⟩ = some (.int .i64 a0_2) ∧ w'.cell? ⟨gb147, 3, none⟩ = some (.int .i64 a0_3) ∧ w'.cell? ⟨gb147, 4, none⟩ = some (.int .i64 a0_4)) ∧ (Kd.R (Kd.int .u8) 5 w' w.heap.size (fun _ => True) s_.1 y149) ∧ (Kd.R (Kd.int .i64) 3 w' w.heap.size (fun _ => True) s_.2 y152) ∧ (w'.heap[gb147]? = some (.cells #[.int .i64 a0_0, .int .i64 a0_1, .int .i64 a0_2, .int .i64 a0_3, .int .i64 a0_4] 73 (0, 0))) ∧ (Below w.heap.size w w')) ?_ ?_
        rotate_left
        ·intro hJ3_14
         refine join_ (σ := Value) 7 #[T_,T_,T_,F_,F_,F_,T_,T_,T_,T_,T_,T_,T_,T_,T_,T_,F_,F_,F_,F_] (fun s_ => [(21, s_), (22, .string t155)]) (fun s_ w' => (w'.cell? ⟨gb147, 0, none⟩ = some (.int .i64 a0_0) ∧ w'.cell? ⟨gb147, 1, none⟩ = some (.int .i64 a0_1) ∧ w'.cell? ⟨gb147, 2, none⟩ = some (.int .i64 a0_2) ∧ w'.cell? ⟨gb147, 3, none⟩ = some (.int .i64 a0_3) ∧ w'.cell? ⟨gb147, 4, none⟩ = some (.int .i64 a0_4)) ∧ (Kd.R (Kd.int .i64) 3 w' w.heap.size (fun _ => True) s_ y152) ∧ (w'.heap[gb147]? = some (.cells #[.int .i64 a0_0, .int .i64 a0_1, .int .i64 a0_2, .int .i64 a0_3, .int .i64 a0_4] 73 (0, 0))) ∧ (Below w.heap.size w w')) ?_ ?_
         rotate_left
         ·intro hJ14_15
          refine join_ (σ := Value) 8 #[T_,T_,T_,T_,F_,F_,T_,T_,T_,T_,T_,T_,T_,T_,F_,F_,F_,F_,F_,F_] (fun s_ => [(10, s_)]) (fun s_ w' => (w'.cell? ⟨gb147, 0, none⟩ = some (.int .i64 a0_0) ∧ w'.cell? ⟨gb147, 1, none⟩ = some (.int .i64 a0_1) ∧ w'.cell? ⟨gb147, 2, none⟩ = some (.int .i64 a0_2) ∧ w'.cell? ⟨gb147, 3, none⟩ = some (.int .i64 a0_3) ∧ w'.cell? ⟨gb147, 4, none⟩ = some (.int .i64 a0_4)) ∧ (Kd.R (Kd.int .u8) 5 w' w.heap.size (fun _ => True) s_ y149) ∧ (w'.heap[gb147]? = some (.cells #[.int .i64 a0_0, .int .i64 a0_1, .int .i64 a0_2, .int .i64 a0_3, .int .i64 a0_4] 73 (0, 0))) ∧ (Below w.heap.size w w')) ?_ ?_
          rotate_left
          ·intro hJ3
           refine join_ (σ := Value) 8 #[T_,T_,T_,F_,F_,F_,T_,T_,T_,T_,T_,T_,T_,T_,T_,F_,F_,F_,F_,F_] (fun s_ => [(21, s_)]) (fun s_ w' => (w'.cell? ⟨gb147, 0, none⟩ = some (.int .i64 a0_0) ∧ w'.cell? ⟨gb147, 1, none⟩ = some (.int .i64 a0_1) ∧ w'.cell? ⟨gb147, 2, none⟩ = some (.int .i64 a0_2) ∧ w'.cell? ⟨gb147, 3, none⟩ = some (.int .i64 a0_3) ∧ w'.cell? ⟨gb147, 4, none⟩ = some (.int .i64 a0_4)) ∧ (Kd.R (Kd.int .i64) 3 w' w.heap.size (fun _ => True) s_ y152) ∧ (w'.heap[gb147]? = some (.cells #[.int .i64 a0_0, .int .i64 a0_1, .int .i64 a0_2, .int .i64 a0_3, .int .i64 a0_4] 73 (0, 0))) ∧ (Below w.heap.size w w')) ?_ ?_
           rotate_left
           ·intro hJ14
            refine two_ (i := 3) (j := 14) (Ni := some 10) (Nj := some 21) #[T_,T_,T_,T_,F_,F_,T_,T_,T_,T_,T_,T_,T_,T_,F_,F_,F_,F_,F_,F_] #[T_,T_,T_,F_,F_,F_,T_,T_,T_,T_,T_,T_,T_,T_,T_,F_,F_,F_,F_,F_] rfl rfl rfl rfl (two_of HT_.out (by kernel_rfl)) (by decide) (by decide) (fun K hK => ?_) (fun K hK => ?_)
            ·skip
             refine Kd.R_lit_step (Kd.int .u8) _ 5 ?hg (N := 10) ?hd (xs := ([(a0_0) % 256] : List Int)) (inner := [.int .u8 ((a0_0) % 256)]) (ok := fun _ => True) (okp := fun _ => True) ?hr ?hp (fun _ hk => hk) trivial (Below.refl _ _) (Nat.le_refl _) (by simp) ?_; (case hd => rfl); (case hg => rfl); (case hr => first | (go_simp; done) | (go_simp; rfl)); (case hp => exact (Reps.one (show Kd.M (Kd.int .u8) _ _ _ ((a0_0) % 256) [.int .u8 ((a0_0) % 256)] from rfl) (Reps.none _ _)))
             intro v150 w12 ho13 hb hg_ hnew_
             clear hg_ hnew_
             (first | rw [← Ny149.out] at ho13 | (simp only [Int.reduceToNat] at ho13; rw [← Ny149.out] at ho13))
             have n0_ := Aside0.mk (Kd.R_lower ho13 (below_size qH))
             have n1_ := wB BK147 hb
             have n2_ := wH hb
             clear BK147
             clear HB
             have HO151 := n0_
             have BK147 := n1_
             have HB := n2_
             clear n0_ n1_ n2_
             clear hb ho13
             refine hK.out _ _ ⟨c0_ BK147, c1_ BK147, c2_ BK147, c3_ BK147, c4_ BK147⟩ (fun hHeld => ?_)
             clear hK K
             refine nS (some 10) ?_
             exact norm_ (nP) (hJ3 (v150) _ ⟨hHeld, (qR HO151.out), (qB BK147), qH⟩)
            ·skip
             refine Kd.R_lit_step (Kd.int .i64) _ 3 ?hg (N := 21) ?hd (xs := ([a0_1, a0_2, a0_3, a0_4] : List Int)) (inner := [.int .i64 a0_1, .int .i64 a0_2, .int .i64 a0_3, .int .i64 a0_4]) (ok := fun _ => True) (okp := fun _ => True) ?hr ?hp (fun _ hk => hk) trivial (Below.refl _ _) (Nat.le_refl _) (by simp) ?_; (case hd => rfl); (case hg => rfl); (case hr => first | (go_simp; done) | (go_simp; rfl)); (case hp => exact (Reps.one (show Kd.M (Kd.int .i64) _ _ _ a0_1 [.int .i64 a0_1] from rfl) (Reps.one (show Kd.M (Kd.int .i64) _ _ _ a0_2 [.int .i64 a0_2] from rfl) (Reps.one (show Kd.M (Kd.int .i64) _ _ _ a0_3 [.int .i64 a0_3] from rfl) (Reps.one (show Kd.M (Kd.int .i64) _ _ _ a0_4 [.int .i64 a0_4] from rfl) (Reps.none _ _))))))
             intro v153 w12 ho13 hb hg_ hnew_
             clear hg_ hnew_
             (first | rw [← Ny152.out] at ho13 | (simp only [Int.reduceToNat] at ho13; rw [← Ny152.out] at ho13))
             have n0_ := Aside0.mk (Kd.R_lower ho13 (below_size qH))
             have n1_ := wB BK147 hb
             have n2_ := wH hb
             clear BK147
             clear HB
             have HO154 := n0_
             have BK147 := n1_
             have HB := n2_
             clear n0_ n1_ n2_
             clear hb ho13
             refine hK.out _ _ ⟨c0_ BK147, c1_ BK147, c2_ BK147, c3_ BK147, c4_ BK147⟩ (fun hHeld => ?_)
             clear hK K
             refine nS (some 21) ?_
             exact norm_ (nP) (hJ14 (v153) _ ⟨hHeld, (qR HO154.out), (qB BK147), qH⟩)
           ·skip
            rintro v153 w14 ⟨hS_, h0_, h1_, h2_⟩
            have n0_ : Aside0 (Kd.R (Kd.int .i64) 3 w14 w.heap.size (fun _ => True) v153 y152) := ⟨h0_⟩
            have n1_ : Aside0 (w14.heap[gb147]? = some (.cells #[.int .i64 a0_0, .int .i64 a0_1, .int .i64 a0_2, .int .i64 a0_3, .int .i64 a0_4] 73 (0, 0))) := ⟨h1_⟩
            have n2_ : Aside0 (Below w.heap.size w w14) := ⟨h2_⟩
            clear BK147
            clear HB
            clear h0_ h1_ h2_
            have HO154 := n0_
            have BK147 := n1_
            have HB := n2_
            clear n0_ n1_ n2_
            have hHeld : w14.cell? ⟨gb147, 0, none⟩ = some (.int .i64 a0_0) ∧ w14.cell? ⟨gb147, 1, none⟩ = some (.int .i64 a0_1) ∧ w14.cell? ⟨gb147, 2, none⟩ = some (.int .i64 a0_2) ∧ w14.cell? ⟨gb147, 3, none⟩ = some (.int .i64 a0_3) ∧ w14.cell? ⟨gb147, 4, none⟩ = some (.int .i64 a0_4) := hS_
            refine nA ?_
            obtain ⟨Ao15, co15, eo15⟩ := Kd.R_slice HO154.out -- FIX03
            (first | subst eo15 | (injection eo15 with f1_ f2_ f3_; have f4_ := f1_.symm; have f5_ := f3_.symm; clear f1_ f2_ f3_; subst f4_; subst f5_))
            refine two_ (i := 3) (j := 15) (Ni := some 10) (Nj := some 22) #[T_,T_,T_,T_,F_,F_,T_,T_,T_,T_,T_,T_,T_,T_,T_,F_,F_,F_,F_,F_] #[T_,T_,T_,F_,F_,F_,T_,T_,T_,T_,T_,T_,T_,T_,T_,T_,F_,F_,F_,F_] rfl rfl rfl rfl (two_of HT_.out (by kernel_rfl)) (by decide) (by decide) (fun K hK => ?_) (fun K hK => ?_)
            ·skip
             refine Kd.R_lit_step (Kd.int .u8) _ 5 ?hg (N := 10) ?hd (xs := ([(a0_0) % 256] : List Int)) (inner := [.int .u8 ((a0_0) % 256)]) (ok := fun _ => True) (okp := fun _ => True) ?hr ?hp (fun _ hk => hk) trivial (Below.refl _ _) (Nat.le_refl _) (by simp) ?_; (case hd => rfl); (case hg => rfl); (case hr => first | (go_simp; done) | (go_simp; rfl)); (case hp => exact (Reps.one (show Kd.M (Kd.int .u8) _ _ _ ((a0_0) % 256) [.int .u8 ((a0_0) % 256)] from rfl) (Reps.none _ _)))
             intro v150 w15 ho16 hb hg_ hnew_
             clear hg_ hnew_
             (first | rw [← Ny149.out] at ho16 | (simp only [Int.reduceToNat] at ho16; rw [← Ny149.out] at ho16))
             have n0_ := Aside0.mk (Kd.R_below (qR HO154.out) hb)
             have n1_ := Aside0.mk (Kd.R_lower ho16 (below_size qH))
             have n2_ := wB BK147 hb
             have n3_ := wH hb
             clear HO154
             clear BK147
             clear HB
             have HO154 := n0_
             have HO151 := n1_
             have BK147 := n2_
             have HB := n3_
             clear n0_ n1_ n2_ n3_
             clear hb ho16
             refine hK.out _ _ ⟨c0_ BK147, c1_ BK147, c2_ BK147, c3_ BK147, c4_ BK147⟩ (fun hHeld => ?_)
             clear hK K
             refine nS (some 10) ?_
             exact norm_ (nP) (hJ3_14 (v150, (.slice Ao15 y152.length co15)) _ ⟨hHeld, (qR HO151.out), (qR HO154.out), (qB BK147), qH⟩)
            ·skip
             refine gO Try.func76 #[.slice Ao15 y152.length co15] ?_
             with_reducible refine (rec_bytes.calls k _ _ y152 t155 _ ?side1 ?side2 A5.out).mono ?_
             (case side1 => exact qK (Kd.R_reads' HO154.out).2.2)
             (case side2 => exact (Kd.R_reads' HO154.out).2.1)
             rintro e w16 ⟨rfl, hb⟩
             refine ⟨_, rfl, ?_⟩
             have n0_ := Aside0.mk (Kd.R_below (qR HO154.out) hb)
             have n1_ := wB BK147 hb
             have n2_ := wH hb
             clear HO154
             clear BK147
             clear HB
             have HO154 := n0_
             have BK147 := n1_
             have HB := n2_
             clear n0_ n1_ n2_
             (try clear hb)
             (try clear hb2)
             (try clear hk)
             (try clear hi)
             refine hK.out _ _ ⟨c0_ BK147, c1_ BK147, c2_ BK147, c3_ BK147, c4_ BK147⟩ (fun hHeld => ?_)
             clear hK K
             refine nS (some 22) ?_
             exact norm_ (nP) (hJ14_15 (.slice Ao15 y152.length co15) _ ⟨hHeld, (qR HO154.out), (qB BK147), qH⟩)
          ·skip
           rintro v150 w14 ⟨hS_, h0_, h1_, h2_⟩
           have n0_ : Aside0 (Kd.R (Kd.int .u8) 5 w14 w.heap.size (fun _ => True) v150 y149) := ⟨h0_⟩
           have n1_ : Aside0 (w14.heap[gb147]? = some (.cells #[.int .i64 a0_0, .int .i64 a0_1, .int .i64 a0_2, .int .i64 a0_3, .int .i64 a0_4] 73 (0, 0))) := ⟨h1_⟩
           have n2_ : Aside0 (Below w.heap.size w w14) := ⟨h2_⟩
           clear BK147
           clear HB
           clear h0_ h1_ h2_
           have HO151 := n0_
           have BK147 := n1_
           have HB := n2_
           clear n0_ n1_ n2_
           have hHeld : w14.cell? ⟨gb147, 0, none⟩ = some (.int .i64 a0_0) ∧ w14.cell? ⟨gb147, 1, none⟩ = some (.int .i64 a0_1) ∧ w14.cell? ⟨gb147, 2, none⟩ = some (.int .i64 a0_2) ∧ w14.cell? ⟨gb147, 3, none⟩ = some (.int .i64 a0_3) ∧ w14.cell? ⟨gb147, 4, none⟩ = some (.int .i64 a0_4) := hS_
           refine nA ?_
           refine two_ (i := 4) (j := 14) (Ni := some 11) (Nj := some 21) #[T_,T_,T_,T_,T_,F_,T_,T_,T_,T_,T_,T_,T_,T_,F_,F_,F_,F_,F_,F_] #[T_,T_,T_,T_,F_,F_,T_,T_,T_,T_,T_,T_,T_,T_,T_,F_,F_,F_,F_,F_] rfl rfl rfl rfl (two_of HT_.out (by kernel_rfl)) (by decide) (by decide) (fun K hK => ?_) (fun K hK => ?_)
           ·skip
            have hcv15 := own_string (P := Try.prog) Try.underlying100 Try.underlying5 Try.underlying9 (Kd.own_of_R HO151.out)
            refine value_ (w1 := ?_) (v := ?_) (by rfl) rfl ?_ ?_
            rotate_left 2
            ·go_simp
             constructor
             ·rfl
             ·rfl
            clear hcv15
            refine hK.out _ _ ⟨c0_ BK147, c1_ BK147, c2_ BK147, c3_ BK147, c4_ BK147⟩ (fun hHeld => ?_)
            clear hK K
            refine nS (some 11) ?_
            refine pU 5 (some 12) #[T_,T_,T_,T_,T_,T_,T_,T_,T_,T_,T_,T_,T_,T_,F_,F_,F_,F_,F_,F_] HT_ ?_
            exact norm_ (nP) (hJ3_4 (v150) _ ⟨hHeld, (qR HO151.out), (qB BK147), qH⟩)
           ·skip
            refine Kd.R_lit_step (Kd.int .i64) _ 3 ?hg (N := 21) ?hd (xs := ([a0_1, a0_2, a0_3, a0_4] : List Int)) (inner := [.int .i64 a0_1, .int .i64 a0_2, .int .i64 a0_3, .int .i64 a0_4]) (ok := fun _ => True) (okp := fun _ => True) ?hr ?hp (fun _ hk => hk) trivial (Below.refl _ _) (Nat.le_refl _) (by simp) ?_; (case hd => rfl); (case hg => rfl); (case hr => first | (go_simp; done) | (go_simp; rfl)); (case hp => exact (Reps.one (show Kd.M (Kd.int .i64) _ _ _ a0_1 [.int .i64 a0_1] from rfl) (Reps.one (show Kd.M (Kd.int .i64) _ _ _ a0_2 [.int .i64 a0_2] from rfl) (Reps.one (show Kd.M (Kd.int .i64) _ _ _ a0_3 [.int .i64 a0_3] from rfl) (Reps.one (show Kd.M (Kd.int .i64) _ _ _ a0_4 [.int .i64 a0_4] from rfl) (Reps.none _ _))))))
            intro v153 w15 ho16 hb hg_ hnew_
            clear hg_ hnew_
            (first | rw [← Ny152.out] at ho16 | (simp only [Int.reduceToNat] at ho16; rw [← Ny152.out] at ho16))
            have n0_ := Aside0.mk (Kd.R_below (qR HO151.out) hb)
            have n1_ := Aside0.mk (Kd.R_lower ho16 (below_size qH))
            have n2_ := wB BK147 hb
            have n3_ := wH hb
            clear HO151
            clear BK147
            clear HB
            have HO151 := n0_
            have HO154 := n1_
            have BK147 := n2_
            have HB := n3_
            clear n0_ n1_ n2_ n3_
            clear hb ho16
            refine hK.out _ _ ⟨c0_ BK147, c1_ BK147, c2_ BK147, c3_ BK147, c4_ BK147⟩ (fun hHeld => ?_)
            clear hK K
            refine nS (some 21) ?_
            exact norm_ (nP) (hJ3_14 (v150, v153) _ ⟨hHeld, (qR HO151.out), (qR HO154.out), (qB BK147), qH⟩)
         ·skip
          rintro v153 w16 ⟨hS_, h0_, h1_, h2_⟩
          have n0_ : Aside0 (Kd.R (Kd.int .i64) 3 w16 w.heap.size (fun _ => True) v153 y152) := ⟨h0_⟩
          have n1_ : Aside0 (w16.heap[gb147]? = some (.cells #[.int .i64 a0_0, .int .i64 a0_1, .int .i64 a0_2, .int .i64 a0_3, .int .i64 a0_4] 73 (0, 0))) := ⟨h1_⟩
          have n2_ : Aside0 (Below w.heap.size w w16) := ⟨h2_⟩
          clear BK147
          clear HB
          clear h0_ h1_ h2_
          have HO154 := n0_
          have BK147 := n1_
          have HB := n2_
          clear n0_ n1_ n2_
          have hHeld : w16.cell? ⟨gb147, 0, none⟩ = some (.int .i64 a0_0) ∧ w16.cell? ⟨gb147, 1, none⟩ = some (.int .i64 a0_1) ∧ w16.cell? ⟨gb147, 2, none⟩ = some (.int .i64 a0_2) ∧ w16.cell? ⟨gb147, 3, none⟩ = some (.int .i64 a0_3) ∧ w16.cell? ⟨gb147, 4, none⟩ = some (.int .i64 a0_4) := hS_
          refine nA ?_
          refine oN 3 (some 10) #[T_,T_,T_,T_,F_,F_,T_,T_,T_,T_,T_,T_,T_,T_,T_,T_,F_,F_,F_,F_] HT_ (fun K hK => ?_)
          refine Kd.R_lit_step (Kd.int .u8) _ 5 ?hg (N := 10) ?hd (xs := ([(a0_0) % 256] : List Int)) (inner := [.int .u8 ((a0_0) % 256)]) (ok := fun _ => True) (okp := fun _ => True) ?hr ?hp (fun _ hk => hk) trivial (Below.refl _ _) (Nat.le_refl _) (by simp) ?_; (case hd => rfl); (case hg => rfl); (case hr => first | (go_simp; done) | (go_simp; rfl)); (case hp => exact (Reps.one (show Kd.M (Kd.int .u8) _ _ _ ((a0_0) % 256) [.int .u8 ((a0_0) % 256)] from rfl) (Reps.none _ _)))
          intro v150 w17 ho18 hb hg_ hnew_
          clear hg_ hnew_
          (first | rw [← Ny149.out] at ho18 | (simp only [Int.reduceToNat] at ho18; rw [← Ny149.out] at ho18))
          have n0_ := Aside0.mk (Kd.R_below (qR HO154.out) hb)
          have n1_ := Aside0.mk (Kd.R_lower ho18 (below_size qH))
          have n2_ := wB BK147 hb
          have n3_ := wH hb
          clear HO154
          clear BK147
          clear HB
          have HO154 := n0_
          have HO151 := n1_
          have BK147 := n2_
          have HB := n3_
          clear n0_ n1_ n2_ n3_
          clear hb ho18
          refine hK.out _ _ ⟨c0_ BK147, c1_ BK147, c2_ BK147, c3_ BK147, c4_ BK147⟩ (fun hHeld => ?_)
          clear hK K
          refine nS (some 10) ?_
          exact norm_ (nP) (hJ3_14_15 (v150, v153) _ ⟨hHeld, (qR HO151.out), (qR HO154.out), (qB BK147), qH⟩)
        ·skip
         rintro ⟨v150, v153⟩ w16 ⟨hS_, h0_, h1_, h2_, h3_⟩
         have n0_ : Aside0 (Kd.R (Kd.int .u8) 5 w16 w.heap.size (fun _ => True) v150 y149) := ⟨h0_⟩
         have n1_ : Aside0 (Kd.R (Kd.int .i64) 3 w16 w.heap.size (fun _ => True) v153 y152) := ⟨h1_⟩
         have n2_ : Aside0 (w16.heap[gb147]? = some (.cells #[.int .i64 a0_0, .int .i64 a0_1, .int .i64 a0_2, .int .i64 a0_3, .int .i64 a0_4] 73 (0, 0))) := ⟨h2_⟩
         have n3_ : Aside0 (Below w.heap.size w w16) := ⟨h3_⟩
         clear BK147
         clear HB
         clear h0_ h1_ h2_ h3_
         have HO151 := n0_
         have HO154 := n1_
         have BK147 := n2_
         have HB := n3_
         clear n0_ n1_ n2_ n3_
         have hHeld : w16.cell? ⟨gb147, 0, none⟩ = some (.int .i64 a0_0) ∧ w16.cell? ⟨gb147, 1, none⟩ = some (.int .i64 a0_1) ∧ w16.cell? ⟨gb147, 2, none⟩ = some (.int .i64 a0_2) ∧ w16.cell? ⟨gb147, 3, none⟩ = some (.int .i64 a0_3) ∧ w16.cell? ⟨gb147, 4, none⟩ = some (.int .i64 a0_4) := hS_
         refine nA ?_
         obtain ⟨Ao17, co17, eo17⟩ := Kd.R_slice HO154.out -- FIX03
         (first | subst eo17 | (injection eo17 with f1_ f2_ f3_; have f4_ := f1_.symm; have f5_ := f3_.symm; clear f1_ f2_ f3_; subst f4_; subst f5_))
         refine two_ (i := 4) (j := 15) (Ni := some 11) (Nj := some 22) #[T_,T_,T_,T_,T_,F_,T_,T_,T_,T_,T_,T_,T_,T_,T_,F_,F_,F_,F_,F_] #[T_,T_,T_,T_,F_,F_,T_,T_,T_,T_,T_,T_,T_,T_,T_,T_,F_,F_,F_,F_] rfl rfl rfl rfl (two_of HT_.out (by kernel_rfl)) (by decide) (by decide) (fun K hK => ?_) (fun K hK => ?_)
         ·skip
          have hcv17 := own_string (P := Try.prog) Try.underlying100 Try.underlying5 Try.underlying9 (Kd.own_of_R HO151.out)
          refine value_ (w1 := ?_) (v := ?_) (by rfl) rfl ?_ ?_
          rotate_left 2
          ·go_simp
           constructor
           ·rfl
           ·rfl
          clear hcv17
          refine hK.out _ _ ⟨c0_ BK147, c1_ BK147, c2_ BK147, c3_ BK147, c4_ BK147⟩ (fun hHeld => ?_)
          clear hK K
          refine nS (some 11) ?_
          refine pU 5 (some 12) #[T_,T_,T_,T_,T_,T_,T_,T_,T_,T_,T_,T_,T_,T_,T_,F_,F_,F_,F_,F_] HT_ ?_
          exact norm_ (nP) (hJ3_4_14 (v150, (.slice Ao17 y152.length co17)) _ ⟨hHeld, (qR HO151.out), (qR HO154.out), (qB BK147), qH⟩)
         ·skip
          refine gO Try.func76 #[.slice Ao17 y152.length co17] ?_
          with_reducible refine (rec_bytes.calls k _ _ y152 t155 _ ?side1 ?side2 A5.out).mono ?_
          (case side1 => exact qK (Kd.R_reads' HO154.out).2.2)
          (case side2 => exact (Kd.R_reads' HO154.out).2.1)
          rintro e w18 ⟨rfl, hb⟩
          refine ⟨_, rfl, ?_⟩
          have n0_ := Aside0.mk (Kd.R_below (qR HO151.out) hb)
          have n1_ := Aside0.mk (Kd.R_below (qR HO154.out) hb)
          have n2_ := wB BK147 hb
          have n3_ := wH hb
          clear HO151
          clear HO154
          clear BK147
          clear HB
          have HO151 := n0_
          have HO154 := n1_
          have BK147 := n2_
          have HB := n3_
          clear n0_ n1_ n2_ n3_
          (try clear hb)
          (try clear hb2)
          (try clear hk)
          (try clear hi)
          refine hK.out _ _ ⟨c0_ BK147, c1_ BK147, c2_ BK147, c3_ BK147, c4_ BK147⟩ (fun hHeld => ?_)
          clear hK K
          refine nS (some 22) ?_
          exact norm_ (nP) (hJ3_14_15 (v150, .slice Ao17 y152.length co17) _ ⟨hHeld, (qR HO151.out), (qR HO154.out), (qB BK147), qH⟩)
       ·skip
        rintro v150 w15 ⟨hS_, h0_, h1_, h2_⟩
        have n0_ : Aside0 (Kd.R (Kd.int .u8) 5 w15 w.heap.size (fun _ => True) v150 y149) := ⟨h0_⟩
        have n1_ : Aside0 (w15.heap[gb147]? = some (.cells #[.int .i64 a0_0, .int .i64 a0_1, .int .i64 a0_2, .int .i64 a0_3, .int .i64 a0_4] 73 (0, 0))) := ⟨h1_⟩
        have n2_ : Aside0 (Below w.heap.size w w15) := ⟨h2_⟩
        clear BK147
        clear HB
        clear h0_ h1_ h2_
        have HO151 := n0_
        have BK147 := n1_
        have HB := n2_
        clear n0_ n1_ n2_
        have hHeld : w15.cell? ⟨gb147, 0, none⟩ = some (.int .i64 a0_0) ∧ w15.cell? ⟨gb147, 1, none⟩ = some (.int .i64 a0_1) ∧ w15.cell? ⟨gb147, 2, none⟩ = some (.int .i64 a0_2) ∧ w15.cell? ⟨gb147, 3, none⟩ = some (.int .i64 a0_3) ∧ w15.cell? ⟨gb147, 4, none⟩ = some (.int .i64 a0_4) := hS_
        refine nA ?_
        refine oN 14 (some 21) #[T_,T_,T_,T_,T_,T_,T_,T_,T_,T_,T_,T_,T_,T_,T_,F_,F_,F_,F_,F_] HT_ (fun K hK => ?_)
        refine Kd.R_lit_step (Kd.int .i64) _ 3 ?hg (N := 21) ?hd (xs := ([a0_1, a0_2, a0_3, a0_4] : List Int)) (inner := [.int .i64 a0_1, .int .i64 a0_2, .int .i64 a0_3, .int .i64 a0_4]) (ok := fun _ => True) (okp := fun _ => True) ?hr ?hp (fun _ hk => hk) trivial (Below.refl _ _) (Nat.le_refl _) (by simp) ?_; (case hd => rfl); (case hg => rfl); (case hr => first | (go_simp; done) | (go_simp; rfl)); (case hp => exact (Reps.one (show Kd.M (Kd.int .i64) _ _ _ a0_1 [.int .i64 a0_1] from rfl) (Reps.one (show Kd.M (Kd.int .i64) _ _ _ a0_2 [.int .i64 a0_2] from rfl) (Reps.one (show Kd.M (Kd.int .i64) _ _ _ a0_3 [.int .i64 a0_3] from rfl) (Reps.one (show Kd.M (Kd.int .i64) _ _ _ a0_4 [.int .i64 a0_4] from rfl) (Reps.none _ _))))))
        intro v153 w16 ho17 hb hg_ hnew_
        clear hg_ hnew_
        (first | rw [← Ny152.out] at ho17 | (simp only [Int.reduceToNat] at ho17; rw [← Ny152.out] at ho17))
        have n0_ := Aside0.mk (Kd.R_below (qR HO151.out) hb)
        have n1_ := Aside0.mk (Kd.R_lower ho17 (below_size qH))
        have n2_ := wB BK147 hb
        have n3_ := wH hb
        clear HO151
        clear BK147
        clear HB
        have HO151 := n0_
        have HO154 := n1_
        have BK147 := n2_
        have HB := n3_
        clear n0_ n1_ n2_ n3_
        clear hb ho17
        refine hK.out _ _ ⟨c0_ BK147, c1_ BK147, c2_ BK147, c3_ BK147, c4_ BK147⟩ (fun hHeld => ?_)
        clear hK K
        refine nS (some 21) ?_
        exact norm_ (nP) (hJ3_4_14 (v150, v153) _ ⟨hHeld, (qR HO151.out), (qR HO154.out), (qB BK147), qH⟩)
      ·skip
       rintro ⟨v150, v153⟩ w18 ⟨hS_, h0_, h1_, h2_, h3_⟩
       have n0_ : Aside0 (Kd.R (Kd.int .u8) 5 w18 w.heap.size (fun _ => True) v150 y149) := ⟨h0_⟩
       have n1_ : Aside0 (Kd.R (Kd.int .i64) 3 w18 w.heap.size (fun _ => True) v153 y152) := ⟨h1_⟩
       have n2_ : Aside0 (w18.heap[gb147]? = some (.cells #[.int .i64 a0_0, .int .i64 a0_1, .int .i64 a0_2, .int .i64 a0_3, .int .i64 a0_4] 73 (0, 0))) := ⟨h2_⟩
       have n3_ : Aside0 (Below w.heap.size w w18) := ⟨h3_⟩
       clear BK147
       clear HB
       clear h0_ h1_ h2_ h3_
       have HO151 := n0_
       have HO154 := n1_
       have BK147 := n2_
       have HB := n3_
       clear n0_ n1_ n2_ n3_
       have hHeld : w18.cell? ⟨gb147, 0, none⟩ = some (.int .i64 a0_0) ∧ w18.cell? ⟨gb147, 1, none⟩ = some (.int .i64 a0_1) ∧ w18.cell? ⟨gb147, 2, none⟩ = some (.int .i64 a0_2) ∧ w18.cell? ⟨gb147, 3, none⟩ = some (.int .i64 a0_3) ∧ w18.cell? ⟨gb147, 4, none⟩ = some (.int .i64 a0_4) := hS_
       refine nA ?_
       refine oN 4 (some 11) #[T_,T_,T_,T_,T_,F_,T_,T_,T_,T_,T_,T_,T_,T_,T_,T_,F_,F_,F_,F_] HT_ (fun K hK => ?_)
       have hcv19 := own_string (P := Try.prog) Try.underlying100 Try.underlying5 Try.underlying9 (Kd.own_of_R HO151.out)
       refine value_ (w1 := ?_) (v := ?_) (by rfl) rfl ?_ ?_
       rotate_left 2
       ·go_simp
        constructor
        ·rfl
        ·rfl
       clear hcv19
       refine hK.out _ _ ⟨c0_ BK147, c1_ BK147, c2_ BK147, c3_ BK147, c4_ BK147⟩ (fun hHeld => ?_)
       clear hK K
       refine nS (some 11) ?_
       refine pU 5 (some 12) #[T_,T_,T_,T_,T_,T_,T_,T_,T_,T_,T_,T_,T_,T_,T_,T_,F_,F_,F_,F_] HT_ ?_
       exact norm_ (nP) (hJ3_4_14_15 (v150, v153) _ ⟨hHeld, (qR HO151.out), (qR HO154.out), (qB BK147), qH⟩)
     ·skip
      rintro ⟨v150, v153⟩ w17 ⟨hS_, h0_, h1_, h2_, h3_⟩
      have n0_ : Aside0 (Kd.R (Kd.int .u8) 5 w17 w.heap.size (fun _ => True) v150 y149) := ⟨h0_⟩
      have n1_ : Aside0 (Kd.R (Kd.int .i64) 3 w17 w.heap.size (fun _ => True) v153 y152) := ⟨h1_⟩
      have n2_ : Aside0 (w17.heap[gb147]? = some (.cells #[.int .i64 a0_0, .int .i64 a0_1, .int .i64 a0_2, .int .i64 a0_3, .int .i64 a0_4] 73 (0, 0))) := ⟨h2_⟩
      have n3_ : Aside0 (Below w.heap.size w w17) := ⟨h3_⟩
      clear BK147
      clear HB
      clear h0_ h1_ h2_ h3_
      have HO151 := n0_
      have HO154 := n1_
      have BK147 := n2_
      have HB := n3_
      clear n0_ n1_ n2_ n3_
      have hHeld : w17.cell? ⟨gb147, 0, none⟩ = some (.int .i64 a0_0) ∧ w17.cell? ⟨gb147, 1, none⟩ = some (.int .i64 a0_1) ∧ w17.cell? ⟨gb147, 2, none⟩ = some (.int .i64 a0_2) ∧ w17.cell? ⟨gb147, 3, none⟩ = some (.int .i64 a0_3) ∧ w17.cell? ⟨gb147, 4, none⟩ = some (.int .i64 a0_4) := hS_
      obtain ⟨Ao18, co18, eo18⟩ := Kd.R_slice HO154.out
      (first | subst eo18 | (injection eo18 with f1_ f2_ f3_; have f4_ := f1_.symm; have f5_ := f3_.symm; clear f1_ f2_ f3_; subst f4_; subst f5_))
      refine nA ?_
      refine oN 15 (some 22) #[T_,T_,T_,T_,T_,T_,T_,T_,T_,T_,T_,T_,T_,T_,T_,T_,F_,F_,F_,F_] HT_ (fun K hK => ?_)
      refine gO Try.func76 #[.slice Ao18 y152.length co18] ?_
      with_reducible refine (rec_bytes.calls k _ _ y152 t155 _ ?side1 ?side2 A5.out).mono ?_
      (case side1 => exact qK (Kd.R_reads' HO154.out).2.2)
      (case side2 => exact (Kd.R_reads' HO154.out).2.1)
      rintro e w19 ⟨rfl, hb⟩
      refine ⟨_, rfl, ?_⟩
      have n0_ := Aside0.mk (Kd.R_below (qR HO151.out) hb)
      have n1_ := Aside0.mk (Kd.R_below (qR HO154.out) hb)
      have n2_ := wB BK147 hb
      have n3_ := wH hb
      clear HO151
      clear HO154
      clear BK147
      clear HB
      have HO151 := n0_
      have HO154 := n1_
      have BK147 := n2_
      have HB := n3_
      clear n0_ n1_ n2_ n3_
      (try clear hb)
      (try clear hb2)
      (try clear hk)
      (try clear hi)
      refine hK.out _ _ ⟨c0_ BK147, c1_ BK147, c2_ BK147, c3_ BK147, c4_ BK147⟩ (fun hHeld => ?_)
      clear hK K
      refine nS (some 22) ?_
      exact norm_ (nP) (hJ3_4_14_15 (v150, .slice Ao18 y152.length co18) _ ⟨hHeld, (qR HO151.out), (qR HO154.out), (qB BK147), qH⟩)
    rintro ⟨v150, v153⟩ w19 ⟨hS_, h0_, h1_, h2_, h3_⟩
    have n0_ : Aside0 (Kd.R (Kd.int .u8) 5 w19 w.heap.size (fun _ => True) v150 y149) := ⟨h0_⟩
    have n1_ : Aside0 (Kd.R (Kd.int .i64) 3 w19 w.heap.size (fun _ => True) v153 y152) := ⟨h1_⟩
    have n2_ : Aside0 (w19.heap[gb147]? = some (.cells #[.int .i64 a0_0, .int .i64 a0_1, .int .i64 a0_2, .int .i64 a0_3, .int .i64 a0_4] 73 (0, 0))) := ⟨h2_⟩
    have n3_ : Aside0 (Below w.heap.size w w19) := ⟨h3_⟩
    clear BK147
    clear HB
    clear h0_ h1_ h2_ h3_
    have HO151 := n0_
    have HO154 := n1_
    have BK147 := n2_
    have HB := n3_
    clear n0_ n1_ n2_ n3_
    have hHeld : w19.cell? ⟨gb147, 0, none⟩ = some (.int .i64 a0_0) ∧ w19.cell? ⟨gb147, 1, none⟩ = some (.int .i64 a0_1) ∧ w19.cell? ⟨gb147, 2, none⟩ = some (.int .i64 a0_2) ∧ w19.cell? ⟨gb147, 3, none⟩ = some (.int .i64 a0_3) ∧ w19.cell? ⟨gb147, 4, none⟩ = some (.int .i64 a0_4) := hS_
    refine nA ?_
    refine pU 16 (some 23) #[T_,T_,T_,T_,T_,T_,T_,T_,T_,T_,T_,T_,T_,T_,T_,T_,T_,F_,F_,F_] HT_ ?_
    refine oN 17 (some 24) #[T_,T_,T_,T_,T_,T_,T_,T_,T_,T_,T_,T_,T_,T_,T_,T_,T_,T_,F_,F_] HT_ (fun K hK => ?_)
    refine gO Try.func63 #[.string (((⟨#[72]⟩ : ByteArray) ++ (strOfNums y149)) ++ t155)] ?_
    with_reducible refine (rec_filled.calls (((⟨#[72]⟩ : ByteArray) ++ (strOfNums y149)) ++ t155) t156 _ A7.out).mono ?_
    rintro e w20 ⟨rfl, hb⟩
    refine ⟨_, rfl, ?_⟩
    have n0_ := Aside0.mk (Kd.R_below (qR HO151.out) hb)
    have n1_ := Aside0.mk (Kd.R_below (qR HO154.out) hb)
    have n2_ := wB BK147 hb
    have n3_ := wH hb
    clear HO151
    clear HO154
    clear BK147
    clear HB
    have BK147 := n2_
    have HB := n3_
    clear n0_ n1_ n2_ n3_
    (try clear hb)
    (try clear hb2)
    (try clear hk)
    (try clear hi)
    refine hK.out _ _ ⟨c0_ BK147, c1_ BK147, c2_ BK147, c3_ BK147, c4_ BK147⟩ (fun hHeld => ?_)
    clear hK K
    refine nS (some 24) ?_
    refine pU 18 (some 2) #[T_,T_,T_,T_,T_,T_,T_,T_,T_,T_,T_,T_,T_,T_,T_,T_,T_,T_,T_,F_] HT_ ?_
    refine pU 19 (some 3) #[T_,T_,T_,T_,T_,T_,T_,T_,T_,T_,T_,T_,T_,T_,T_,T_,T_,T_,T_,T_] HT_ ?_
    refine done_ (done_of HT_.out (by kernel_rfl)) ?_
    try go_wp2
    go_ret2
    exact ⟨eX, qH⟩
   ·rw [if_neg c6] at H
    exact absurd H (by simp)
  ·rw [if_neg c4] at H
   exact absurd H (by simp)
 ·replace c3 := Bool.eq_false_iff.mpr c3
  subst c3
  rw [if_neg nF_] at H
  simp only [Option.some.injEq, Prod.mk.injEq] at H
  obtain ⟨rfl, rfl⟩ := H
  go_enter Try.func57, Try.ntmps57
  go_wp2_with (first | ((with_reducible refine gate_dst (N := 1) rfl ?_); refine bE (N := 1) (cs := #[.int .i64 a0_0, .int .i64 a0_1, .int .i64 a0_2, .int .i64 a0_3, .int .i64 a0_4]) (t := 73) ?_; intro gb147 hg w21 hbox hb; have n0_ := wH hb; have n1_ := Aside0.mk (hbox); have n2_ := Aside0.mk ((qG hg)); have n3_ := Aside0.mk ((qG hg)); clear HB; have HB := n0_; have BK147 := n1_; have GE147 := n3_; clear n0_ n1_ n2_ n3_; clear hb hbox hg; obtain ⟨hcz22_0, hcz22_1, hcz22_2, hcz22_3, hcz22_4, hfz22_0, hfz22_1, hfz22_2, hfz22_3, hfz22_4⟩ := e5_ BK147) | ((with_reducible refine gate_callee (f := 55) rfl ?_); refine gL (some 5) Try.func55 #[.agg #[.int .i64 a0_0, .int .i64 a0_1, .int .i64 a0_2, .int .i64 a0_3, .int .i64 a0_4]] ?_; (with_reducible refine (rec_Head_may.calls k a0_0 a0_1 a0_2 a0_3 a0_4 false _ A2.out).mono ?_); rintro e w23 ⟨rfl, hb⟩; refine ⟨_, rfl, ?_⟩; have n0_ := wB BK147 hb; have n1_ := wH hb; clear BK147; clear HB; have BK147 := n0_; have HB := n1_; clear n0_ n1_; (try clear hb); (try clear hb2); (try clear hk); (try clear hi)))
  go_ret2
  exact ⟨eX, qH⟩
def rec_Read.f (k : Nat) (a0 : ByteArray) : Option (Int × Int × Int × Int × Int × Bool) := if (a0.size : Int) = 32 then (if 1 < (a0.size : Int) then ((rec_number.f k a0 0).bind fun t158 => ((rec_number.f k a0 1).bind fun t159 => ((rec_number.f k a0 2).bind fun t160 => ((rec_number.f k a0 3).bind fun t161 => ((rec_Head_Text.f k (wrap64 (bt a0 1)) t158 t159 t160 t161).bind fun bt163 => (if bt163.2 = true then (if bt163.1.toList = a0.toList then (some (wrap64 (bt a0 1), t158, t159, t160, t161, true)) else (some (0, 0, 0, 0, 0, false))) else (some (0, 0, 0, 0, 0, false)))))))) else (none)) else (some (0, 0, 0, 0, 0, false))
theorem rec_Read.mono : ∀ a0 k, LeO (rec_Read.f k a0) (rec_Read.f (k + 1) a0) := by
 intro a0 k
 unfold rec_Read.f
 repeat' first
   | (with_reducible exact rec_Head_Text.mono _ _ _ _ _ _)
   | (with_reducible exact rec_number.mono _ _ _)
   | (with_reducible exact LeO.refl _)
   | (with_reducible exact LeO.none _)
   | (with_reducible refine LeO.ite ?_ ?_)
   | (with_reducible refine LeO.bind ?_ (fun _ => ?_))
   | exact rec_Head_Text.mono _ _ _ _ _ _
   | exact rec_number.mono _ _ _
   | exact LeO.none _
   | refine LeO.ite ?_ ?_
   | refine LeO.bind ?_ (fun _ => ?_)
def rec_Read.T3 : Bool × List (List Nat × List Nat) := (true, [([], []), ([0], [0]), ([1], [1]), ([], []), ([3], [3]), ([], []), ([5, 4], [5]), ([], []), ([7, 6], [7]), ([], []), ([9, 8], [9]), ([2, 4, 6, 8, 10], [2, 4, 6, 8, 10]), ([], []), ([12, 11, 10, 0, 1, 2, 3, 4, 5, 6, 7, 8, 9, 10, 11, 12], [11, 12])])
def rec_Read.B3 : List Nat := [0, 1, 3, 0, 8, 0, 56, 0, 248, 0, 1016, 2047, 0, 8191]
theorem rec_Read.tab3 : rtab .any (opsOf Try.f53 3) = rec_Read.T3 := by kernel_rfl
theorem rec_Read.bits3 : waitsOk rec_Read.T3.2 rec_Read.B3 = true := by kernel_rfl
set_option maxHeartbeats 8000000 in
set_option maxRecDepth 100000 in
theorem rec_Read.calls (k : Nat) (a0 : ByteArray) (r1 : Int) (r2 : Int) (r3 : Int) (r4 : Int) (r5 : Int) (r6 : Bool) (w : World) (h : rec_Read.f k a0 = some (r1, r2, r3, r4, r5, r6)) :
  Calls Try.prog 53 #[.string a0] w fun e w' => e = .returned (.tuple #[.agg #[.int .i64 r1, .int .i64 r2, .int .i64 r3, .int .i64 r4, .int .i64 r5], .bool r6]) ∧ Below w.heap.size w w' := by
 have hu := Try.underlying73
 have HB := Aside0.mk (Below.refl w.heap.size w)
 unfold rec_Read.f at h
 have H := Aside0.mk h; clear h
 have lay : ∀ {ops : Array Oper} {rest : List Oper} {o : Oper} {a : Act} {Q : Exit → Act → World → Prop} {W : World} (N : Tmp) (hd : o.dst = some N) (hgd : o.guard = none) (ho : o.op = .alloc 73)
   (h : ∀ g, Aside0 (g = W.heap.size) → ∀ w1, Aside0 (w1.heap[g]? = some (.cells #[.int .i64 0, .int .i64 0, .int .i64 0, .int .i64 0, .int .i64 0] 73 (0, 0))) → Aside0 (Below W.heap.size W w1) → wpList Try.prog ops Q rest (a.put (some N) (.pointer (some ⟨g, 0, none⟩))) w1), wpList Try.prog ops Q (o :: rest) a W :=
  fun N hd hgd ho h => box_lay N hd hgd _ ho _ (by kernel_rfl) h
 go_enter Try.func53, Try.ntmps53
 by_cases c1 : (a0.size : Int) = 32
 rotate_left
 ·have H := H.out
  rw [if_neg c1] at H
  obtain ⟨rfl, rfl, rfl, rfl, rfl, rfl⟩ : 0 = r1 ∧ 0 = r2 ∧ 0 = r3 ∧ 0 = r4 ∧ 0 = r5 ∧ false = r6 := by simpa using H
  have c1b : ((a0.size : Int) != 32) = true := bne_iff_ne.2 c1
  clear H c1
  go_wp2_with (first | ((with_reducible refine gate_dst (N := 2) rfl ?_); refine lay 2 rfl rfl rfl ?_; intro g hg w1 BK_ hb; have GEg := Aside0.mk (by rw [hg.out]; exact below_size HB.out : w.heap.size ≤ g); have BKg := BK_; skip; replace HB := Aside0.mk (below_step HB.out hb.out); clear BK_ hb hg) | ((with_reducible refine gate_store (t := 73) (p := 2) rfl ?_); refine box_put rfl rfl 73 (.tmp 2) (.tmp 10) rfl g _ #[.int .i64 0, .int .i64 0, .int .i64 0, .int .i64 0, .int .i64 0] rfl rfl BKg.out rfl rfl (by kernel_rfl) ?_; intro w2 BK2 hb2 hk2 hs2; skip; replace BKg := BK2; replace HB := Aside0.mk (HB.out.trans (hb2.out.mono GEg.out)); clear BK2 hb2 hk2 hs2))
  refine bodyPost_ret (results_ct rfl _ _ g 73 _ (0, 0) _ rfl BKg.out Try.underlying73 rfl (by kernel_rfl)) rfl ?_
  exact ⟨rfl, HB.out⟩
 have c1b : ((a0.size : Int) != 32) = false := bne_eq_false_iff_eq.2 c1
 have c2 : 1 < (a0.size : Int) := by omega
 have h := H.out
 rw [if_pos c1, if_pos c2] at h
 clear H c1
 obtain ⟨t0, q0, h⟩ := Option.bind_eq_some_iff.1 h
 obtain ⟨t1, q1, h⟩ := Option.bind_eq_some_iff.1 h
 obtain ⟨t2, q2, h⟩ := Option.bind_eq_some_iff.1 h
 obtain ⟨t3, q3, h⟩ := Option.bind_eq_some_iff.1 h
 obtain ⟨⟨x, is⟩, q4, h⟩ := Option.bind_eq_some_iff.1 h
 have Q0 := Aside0.mk q0; have Q1 := Aside0.mk q1; have Q2 := Aside0.mk q2; have Q3 := Aside0.mk q3; have Q4 := Aside0.mk q4; have H := Aside0.mk h
 clear q0 q1 q2 q3 q4 h
 have d2 : decide (1 < (a0.size : Int)) = true := decide_eq_true c2
 have d3 : decide (1 < a0.size) = true := decide_eq_true (by omega)
 have C2 := Aside0.mk c2; clear c2
 go_wp2_with (((with_reducible refine gate_dst (N := 2) rfl ?_); refine lay 2 rfl rfl rfl ?_; intro g hg w1 BK_ hb; have GEg := Aside0.mk (by rw [hg.out]; exact below_size HB.out : w.heap.size ≤ g); have BKg := BK_; skip; replace HB := Aside0.mk (below_step HB.out hb.out); clear BK_ hb hg))
 refine Q.wp_quiet_lay 13 (by kernel_rfl) (by kernel_rfl) 73 4 #[.int .i64 0, .int .i64 0, .int .i64 0, .int .i64 0, .int .i64 0] (by kernel_rfl) rfl rfl rfl rfl (fun _ => rfl) ?_
 simp only [List.take_succ_cons, List.take_zero, List.drop_succ_cons, List.drop_zero]
 refine Q.wq_step (.string a0) rfl (fun w0 m => ?_) ?_
 ·go_simp
 refine Q.wq_step (.int .u8 (bt a0 1)) rfl (fun w0 m => ?_) ?_
 ·go_simp
  rw [dif_pos C2.out]
  exact ⟨rfl, congrArg _ (bt_at a0 1 (by have := C2.out; omega))⟩
 refine Q.wq_step (.int .i64 (wrap64 (bt a0 1))) rfl (fun w0 m => ?_) ?_
 ·go_simp
  exact i64_w _
 refine Q.wq_step (.string a0) rfl (fun w0 m => ?_) ?_
 ·go_simp
 refine Q.wq_step (.int .i64 t0) rfl (fun w0 m => ?_) ?_
 ·go_simp
  exact quietD (rec_number.calls _ _ _ _ _ Q0.out)
 refine Q.wq_step (.string a0) rfl (fun w0 m => ?_) ?_
 ·go_simp
 refine Q.wq_step (.int .i64 t1) rfl (fun w0 m => ?_) ?_
 ·go_simp
  exact quietD (rec_number.calls _ _ _ _ _ Q1.out)
 refine Q.wq_step (.string a0) rfl (fun w0 m => ?_) ?_
 ·go_simp
 refine Q.wq_step (.int .i64 t2) rfl (fun w0 m => ?_) ?_
 ·go_simp
  exact quietD (rec_number.calls _ _ _ _ _ Q2.out)
 refine Q.wq_step (.string a0) rfl (fun w0 m => ?_) ?_
 ·go_simp
 refine Q.wq_step (.int .i64 t3) rfl (fun w0 m => ?_) ?_
 ·go_simp
  exact quietD (rec_number.calls _ _ _ _ _ Q3.out)
 refine Q.wq_step (.agg #[.int .i64 (wrap64 (bt a0 1)), .int .i64 t0, .int .i64 t1, .int .i64 t2, .int .i64 t3]) rfl (fun w0 m => ?_) ?_
 ·go_simp
 intro nq
 simp only [Act.put, List.setIfInBounds_toArray, List.set_cons_zero, List.set_cons_succ]
 have GLT := Aside0.mk (blk_lt BKg.out)
 have BKu : Aside0 (((w1.alloc (.cells #[.int .i64 0, .int .i64 0, .int .i64 0, .int .i64 0, .int .i64 0] 73 (0, 0))).drewN nq).heap[w1.heap.size]? = some (.cells #[.int .i64 0, .int .i64 0, .int .i64 0, .int .i64 0, .int .i64 0] 73 (0, 0))) := ⟨_root_.Go.heap_alloc_new w1 _⟩
 replace BKg : Aside0 (((w1.alloc (.cells #[.int .i64 0, .int .i64 0, .int .i64 0, .int .i64 0, .int .i64 0] 73 (0, 0))).drewN nq).heap[g]? = some (.cells #[.int .i64 0, .int .i64 0, .int .i64 0, .int .i64 0, .int .i64 0] 73 (0, 0))) := ⟨(_root_.Go.heap_alloc_old w1 _ GLT.out).trans BKg.out⟩
 have GEu := Aside0.mk HB.out.size
 replace HB := Aside0.mk (yN_ (HB.out.alloc HB.out.size (.cells #[.int .i64 0, .int .i64 0, .int .i64 0, .int .i64 0, .int .i64 0] 73 (0, 0))) nq)
 have NE := Aside0.mk (Nat.ne_of_lt GLT.out)
 clear C2 d2 d3 GLT
 generalize (w1.alloc (.cells #[.int .i64 0, .int .i64 0, .int .i64 0, .int .i64 0, .int .i64 0] 73 (0, 0))).drewN nq = wq at *
 generalize w1.heap.size = u at *
 cases is
 ·obtain ⟨rfl, rfl, rfl, rfl, rfl, rfl⟩ : 0 = r1 ∧ 0 = r2 ∧ 0 = r3 ∧ 0 = r4 ∧ 0 = r5 ∧ false = r6 := by simpa using H.out
  clear H
  go_wp2_with (first | ((with_reducible refine gate_store (t := 73) (p := 4) rfl ?_); refine box_put rfl rfl 73 (.tmp 4) (.tmp 22) rfl u _ #[.int .i64 (wrap64 (bt a0 1)), .int .i64 t0, .int .i64 t1, .int .i64 t2, .int .i64 t3] rfl rfl BKu.out rfl rfl (by kernel_rfl) ?_; intro w2 BK2 hb2 hk2 hs2; replace BKg := Aside0.mk ((hk2.out g NE.out).trans BKg.out); replace BKu := BK2; replace HB := Aside0.mk (HB.out.trans (hb2.out.mono GEu.out)); clear BK2 hb2 hk2 hs2; have z0 := (xC_ BKu.out 0).trans (show _ = some (Value.int .i64 (wrap64 (bt a0 1))) from rfl); have z1 := (xC_ BKu.out 1).trans (show _ = some (Value.int .i64 t0) from rfl); have z2 := (xC_ BKu.out 2).trans (show _ = some (Value.int .i64 t1) from rfl); have z3 := (xC_ BKu.out 3).trans (show _ = some (Value.int .i64 t2) from rfl); have z4 := (xC_ BKu.out 4).trans (show _ = some (Value.int .i64 t3) from rfl)) | (go_at_call 57; (with_reducible refine (rec_Head_Text.calls _ _ _ _ _ _ _ _ _ Q4.out).mono ?_); rintro e w3 ⟨rfl, hb⟩; clear z0 z1 z2 z3 z4; replace BKg := Aside0.mk (blk_below BKg.out hb); replace BKu := Aside0.mk (blk_below BKu.out hb); replace HB := Aside0.mk (below_step HB.out hb); clear hb; have z0 := (xC_ BKu.out 0).trans (show _ = some (Value.int .i64 (wrap64 (bt a0 1))) from rfl); have z1 := (xC_ BKu.out 1).trans (show _ = some (Value.int .i64 t0) from rfl); have z2 := (xC_ BKu.out 2).trans (show _ = some (Value.int .i64 t1) from rfl); have z3 := (xC_ BKu.out 3).trans (show _ = some (Value.int .i64 t2) from rfl); have z4 := (xC_ BKu.out 4).trans (show _ = some (Value.int .i64 t3) from rfl)) | ((with_reducible refine gate_store (t := 73) (p := 2) rfl ?_); refine box_put rfl rfl 73 (.tmp 2) (.tmp 35) rfl g _ #[.int .i64 0, .int .i64 0, .int .i64 0, .int .i64 0, .int .i64 0] rfl rfl BKg.out rfl rfl (by kernel_rfl) ?_; intro w2 BK2 hb2 hk2 hs2; clear z0 z1 z2 z3 z4; replace BKg := BK2; replace HB := Aside0.mk (HB.out.trans (hb2.out.mono GEg.out)); clear BK2 hb2 hk2 hs2; skip))
  refine bodyPost_ret (results_ct rfl _ _ g 73 _ (0, 0) _ rfl BKg.out Try.underlying73 rfl (by kernel_rfl)) rfl ?_
  exact ⟨rfl, HB.out⟩
 by_cases c3 : x.toList = a0.toList
 ·obtain ⟨rfl, rfl, rfl, rfl, rfl, rfl⟩ : wrap64 (bt a0 1) = r1 ∧ t0 = r2 ∧ t1 = r3 ∧ t2 = r4 ∧ t3 = r5 ∧ true = r6 := by simpa [c3] using H.out
  clear H
  have c4 : (x.toList == a0.toList) = true := beq_iff_eq.2 c3
  have c5 : (x.toList != a0.toList) = false := bne_eq_false_iff_eq.2 c3
  clear c3
  go_wp2_with (first | ((with_reducible refine gate_store (t := 73) (p := 4) rfl ?_); refine box_put rfl rfl 73 (.tmp 4) (.tmp 22) rfl u _ #[.int .i64 (wrap64 (bt a0 1)), .int .i64 t0, .int .i64 t1, .int .i64 t2, .int .i64 t3] rfl rfl BKu.out rfl rfl (by kernel_rfl) ?_; intro w2 BK2 hb2 hk2 hs2; replace BKg := Aside0.mk ((hk2.out g NE.out).trans BKg.out); replace BKu := BK2; replace HB := Aside0.mk (HB.out.trans (hb2.out.mono GEu.out)); clear BK2 hb2 hk2 hs2; have z0 := (xC_ BKu.out 0).trans (show _ = some (Value.int .i64 (wrap64 (bt a0 1))) from rfl); have z1 := (xC_ BKu.out 1).trans (show _ = some (Value.int .i64 t0) from rfl); have z2 := (xC_ BKu.out 2).trans (show _ = some (Value.int .i64 t1) from rfl); have z3 := (xC_ BKu.out 3).trans (show _ = some (Value.int .i64 t2) from rfl); have z4 := (xC_ BKu.out 4).trans (show _ = some (Value.int .i64 t3) from rfl)) | (go_at_call 57; (with_reducible refine (rec_Head_Text.calls _ _ _ _ _ _ _ _ _ Q4.out).mono ?_); rintro e w3 ⟨rfl, hb⟩; clear z0 z1 z2 z3 z4; replace BKg := Aside0.mk (blk_below BKg.out hb); replace BKu := Aside0.mk (blk_below BKu.out hb); replace HB := Aside0.mk (below_step HB.out hb); clear hb; have z0 := (xC_ BKu.out 0).trans (show _ = some (Value.int .i64 (wrap64 (bt a0 1))) from rfl); have z1 := (xC_ BKu.out 1).trans (show _ = some (Value.int .i64 t0) from rfl); have z2 := (xC_ BKu.out 2).trans (show _ = some (Value.int .i64 t1) from rfl); have z3 := (xC_ BKu.out 3).trans (show _ = some (Value.int .i64 t2) from rfl); have z4 := (xC_ BKu.out 4).trans (show _ = some (Value.int .i64 t3) from rfl)) | ((with_reducible refine gate_store (t := 73) (p := 2) rfl ?_); refine box_put rfl rfl 73 (.tmp 2) (.tmp 36) rfl g _ #[.int .i64 (wrap64 (bt a0 1)), .int .i64 t0, .int .i64 t1, .int .i64 t2, .int .i64 t3] rfl rfl BKg.out rfl rfl (by kernel_rfl) ?_; intro w2 BK2 hb2 hk2 hs2; clear z0 z1 z2 z3 z4; replace BKg := BK2; replace HB := Aside0.mk (HB.out.trans (hb2.out.mono GEg.out)); clear BK2 hb2 hk2 hs2; skip))
  refine bodyPost_ret (results_ct rfl _ _ g 73 _ (0, 0) _ rfl BKg.out Try.underlying73 rfl (by kernel_rfl)) rfl ?_
  exact ⟨rfl, HB.out⟩
 ·obtain ⟨rfl, rfl, rfl, rfl, rfl, rfl⟩ : 0 = r1 ∧ 0 = r2 ∧ 0 = r3 ∧ 0 = r4 ∧ 0 = r5 ∧ false = r6 := by simpa [c3] using H.out
  clear H
  have c4 : (x.toList == a0.toList) = false := beq_eq_false_iff_ne.2 c3
  have c5 : (x.toList != a0.toList) = true := bne_iff_ne.2 c3
  clear c3
  go_wp2_with (first | ((with_reducible refine gate_store (t := 73) (p := 4) rfl ?_); refine box_put rfl rfl 73 (.tmp 4) (.tmp 22) rfl u _ #[.int .i64 (wrap64 (bt a0 1)), .int .i64 t0, .int .i64 t1, .int .i64 t2, .int .i64 t3] rfl rfl BKu.out rfl rfl (by kernel_rfl) ?_; intro w2 BK2 hb2 hk2 hs2; replace BKg := Aside0.mk ((hk2.out g NE.out).trans BKg.out); replace BKu := BK2; replace HB := Aside0.mk (HB.out.trans (hb2.out.mono GEu.out)); clear BK2 hb2 hk2 hs2; have z0 := (xC_ BKu.out 0).trans (show _ = some (Value.int .i64 (wrap64 (bt a0 1))) from rfl); have z1 := (xC_ BKu.out 1).trans (show _ = some (Value.int .i64 t0) from rfl); have z2 := (xC_ BKu.out 2).trans (show _ = some (Value.int .i64 t1) from rfl); have z3 := (xC_ BKu.out 3).trans (show _ = some (Value.int .i64 t2) from rfl); have z4 := (xC_ BKu.out 4).trans (show _ = some (Value.int .i64 t3) from rfl)) | (go_at_call 57; (with_reducible refine (rec_Head_Text.calls _ _ _ _ _ _ _ _ _ Q4.out).mono ?_); rintro e w3 ⟨rfl, hb⟩; clear z0 z1 z2 z3 z4; replace BKg := Aside0.mk (blk_below BKg.out hb); replace BKu := Aside0.mk (blk_below BKu.out hb); replace HB := Aside0.mk (below_step HB.out hb); clear hb; have z0 := (xC_ BKu.out 0).trans (show _ = some (Value.int .i64 (wrap64 (bt a0 1))) from rfl); have z1 := (xC_ BKu.out 1).trans (show _ = some (Value.int .i64 t0) from rfl); have z2 := (xC_ BKu.out 2).trans (show _ = some (Value.int .i64 t1) from rfl); have z3 := (xC_ BKu.out 3).trans (show _ = some (Value.int .i64 t2) from rfl); have z4 := (xC_ BKu.out 4).trans (show _ = some (Value.int .i64 t3) from rfl)) | ((with_reducible refine gate_store (t := 73) (p := 2) rfl ?_); refine box_put rfl rfl 73 (.tmp 2) (.tmp 35) rfl g _ #[.int .i64 0, .int .i64 0, .int .i64 0, .int .i64 0, .int .i64 0] rfl rfl BKg.out rfl rfl (by kernel_rfl) ?_; intro w2 BK2 hb2 hk2 hs2; clear z0 z1 z2 z3 z4; replace BKg := BK2; replace HB := Aside0.mk (HB.out.trans (hb2.out.mono GEg.out)); clear BK2 hb2 hk2 hs2; skip))
  refine bodyPost_ret (results_ct rfl _ _ g 73 _ (0, 0) _ rfl BKg.out Try.underlying73 rfl (by kernel_rfl)) rfl ?_
  exact ⟨rfl, HB.out⟩
def rec_Cut.l0 : Nat → ByteArray → List ByteArray → Option (List ByteArray)
 | 0, _, _ => none
 | k + 1, x0, x3 => if x0.toList = ([] : List UInt8) then (some x3) else (if 0 ≤ (mn 31 (x0.size : Int)) then (if (mn 31 (x0.size : Int)) ≤ (x0.size : Int) then (if 1 + (x0.extract 0 ((mn 31 (x0.size : Int)) : Int).toNat).size ≤ 9223372036854775807 then ((rec_filled.f ((⟨#[68]⟩ : ByteArray) ++ (x0.extract 0 ((mn 31 (x0.size : Int)) : Int).toNat))).bind fun t181 => (if x3.length < 8796093022208 then (rec_Cut.l0 k (x0.extract ((mn 31 (x0.size : Int)) : Int).toNat x0.size) (x3 ++ [t181])) else (none))) else (none)) else (none)) else (none))
def rec_Cut.f (k : Nat) (a0 : ByteArray) : Option (List ByteArray) := if (a0.size : Int) > 4096 then (some ([] : List ByteArray)) else (rec_Cut.l0 k a0 ([] : List ByteArray))
theorem rec_Cut.mono_l : ∀ k, (∀ y0 y1, LeO (rec_Cut.l0 k y0 y1) (rec_Cut.l0 (k + 1) y0 y1))
 | 0 => fun _ _ r h => by simp [rec_Cut.l0] at h
 | k + 1 => by
  have ih0 := rec_Cut.mono_l k
  ·intro y0 y1
   unfold rec_Cut.l0
   repeat' first
   | (with_reducible exact ih0 _ _)
   | (with_reducible exact LeO.refl _)
   | (with_reducible exact LeO.none _)
   | (with_reducible refine LeO.ite ?_ ?_)
   | (with_reducible refine LeO.bind ?_ (fun _ => ?_))
   | exact ih0 _ _
   | exact LeO.none _
   | refine LeO.ite ?_ ?_
   | refine LeO.bind ?_ (fun _ => ?_)
theorem rec_Cut.mono : ∀ a0 k, LeO (rec_Cut.f k a0) (rec_Cut.f (k + 1) a0) := by
 intro a0 k
 have ih0 := rec_Cut.mono_l k
 unfold rec_Cut.f
 repeat' first
   | (with_reducible exact ih0 _ _)
   | (with_reducible exact LeO.refl _)
   | (with_reducible exact LeO.none _)
   | (with_reducible refine LeO.ite ?_ ?_)
   | (with_reducible refine LeO.bind ?_ (fun _ => ?_))
   | exact ih0 _ _
   | exact LeO.none _
   | refine LeO.ite ?_ ?_
   | refine LeO.bind ?_ (fun _ => ?_)
set_option maxHeartbeats 8000000 in
set_option maxRecDepth 100000 in
theorem rec_Cut.calls (k : Nat) (a0 : ByteArray) (r : List ByteArray) (w : World) (h : rec_Cut.f k a0 = some r) :
  Calls Try.prog 44 #[.string a0] w fun e w' => ∃ v0_ : Value, e = .returned (v0_) ∧ Kd.R Kd.string 9 w' w.heap.size (fun _ => True) v0_ r ∧ Below w.heap.size w w' := by
 have HB := Aside0.mk (Below.refl w.heap.size w)
 have H : (if (a0.size : Int) > 4096 then (some ([] : List ByteArray)) else (rec_Cut.l0 k a0 ([] : List ByteArray))) = some r := h
 clear h
 by_cases c2 : (a0.size : Int) > 4096
 ·rw [if_pos c2] at H
  have c2b0 : decide (4096 < (a0.size : Int)) = true := decide_eq_true c2
  have c2b1 : decide (4096 < a0.size) = true := decide_eq_true (by omega)
  clear c2
  obtain rfl := Option.some.inj H
  go_enter Try.func44, Try.ntmps44
  go_wp2
  go_ret
  exact ⟨_, eX, by first | exact Kd.R_nil _ _ _ _ _ | exact Kd.N_nil _ _ _ _ _ | exact Kd.V_nil _ _ _ _ _ | exact Kd.Q_nil _ _ _ _ _ | exact Kd.S_nil _ _ _ _ _, qH⟩
 ·rw [if_neg c2] at H
  have c2b0 : decide (4096 < (a0.size : Int)) = false := decide_eq_false c2
  have c2b1 : decide (4096 < a0.size) = false := decide_eq_false (by omega)
  clear c2
  have H' := Aside0.mk H
  clear H
  go_enter Try.func44, Try.ntmps44
  go_wp2
  go_loopg [0, 3] k (fun kq v0 v3 w' => ∃ (x0_1 : ByteArray) (x3_1 : List ByteArray), v0 = .string x0_1 ∧ Aside0 (rec_Cut.l0 kq x0_1 x3_1 = some r) ∧ Aside0 (kq ≤ k) ∧ Aside0 (Kd.R Kd.string 9 w' w.heap.size (fun _ => True) v3 x3_1) ∧ Aside0 (Below w.heap.size w w'))
  case atStart => exact ⟨(a0), (([] : List ByteArray)), eY, H', ⟨Nat.le_refl _⟩, ⟨by first | exact Kd.R_nil _ _ _ _ _ | exact Kd.N_nil _ _ _ _ _ | exact Kd.V_nil _ _ _ _ _ | exact Kd.Q_nil _ _ _ _ _ | exact Kd.S_nil _ _ _ _ _⟩, ⟨qH⟩⟩
  case round =>
   clear H'
   (try clear c2b0); (try clear c2b1); (try clear p2)
   obtain ⟨x0_1, x3_1, rfl, HA, HK1, HO_3, HB⟩ := hrel
   cases gk with
   | zero => exact absurd HA.out (by simp [rec_Cut.l0])
   | succ k1 =>
    have H := HA.out
    clear HA
    simp only [rec_Cut.l0] at H
    by_cases c3 : x0_1.toList = ([] : List UInt8)
    ·rw [if_pos c3] at H
     have c3b0 : (x0_1.toList == ([] : List UInt8)) = true := beq_iff_eq.mpr c3
     have c3b1 : (x0_1.toList != ([] : List UInt8)) = false := bne_eq_false_iff_eq.mpr c3
     clear c3
     obtain rfl := Option.some.inj H
     go_wp2
     go_ret
     exact ⟨_, eX, qR HO_3.out, qH⟩
    ·rw [if_neg c3] at H
     have c3b0 : (x0_1.toList == ([] : List UInt8)) = false := beq_eq_false_iff_ne.mpr c3
     have c3b1 : (x0_1.toList != ([] : List UInt8)) = true := bne_iff_ne.mpr c3
     obtain ⟨ji4, hji4⟩ : ∃ j_ : Int, (mn 31 (x0_1.size : Int)) = j_ := ⟨_, rfl⟩
     replace H : (if 0 ≤ (ji4) then (if (ji4) ≤ (x0_1.size : Int) then (if 1 + (x0_1.extract 0 ((ji4) : Int).toNat).size ≤ 9223372036854775807 then ((rec_filled.f ((⟨#[68]⟩ : ByteArray) ++ (x0_1.extract 0 ((ji4) : Int).toNat))).bind fun t181 => (if x3_1.length < 8796093022208 then (rec_Cut.l0 k1 (x0_1.extract ((ji4) : Int).toNat x0_1.size) (x3_1 ++ [t181])) else (none))) else (none)) else (none)) else (none)) = some r := by first | (rw [hji4] at H; exact H) | (simp only [hji4] at H ⊢; exact H)
     have hji4_ : (if (x0_1.size : Int) < 31 then (x0_1.size : Int) else 31) = ji4 := hji4
     by_cases c5 : 0 ≤ (ji4)
     ·rw [if_pos c5] at H
      have c5b0 := eq_true c5
      have c5b1 : decide (0 ≤ (ji4)) = true := decide_eq_true c5
      clear c5
      by_cases c6 : (ji4) ≤ (x0_1.size : Int)
      ·rw [if_pos c6] at H
       have c6b0 := eq_true c6
       have c6b1 : decide ((ji4) ≤ (x0_1.size : Int)) = true := decide_eq_true c6
       clear c6
       by_cases c7 : 1 + (x0_1.extract 0 ((ji4) : Int).toNat).size ≤ 9223372036854775807
       ·rw [if_pos c7] at H
        have c7b0 := eq_true c7
        have c7b1 : decide (1 + (x0_1.extract 0 ((ji4) : Int).toNat).size ≤ 9223372036854775807) = true := decide_eq_true c7
        try have c7b2 : (9223372036854775807 < 1 + (x0_1.extract 0 ((ji4) : Int).toNat).size) = False := eq_false (Nat.not_lt.2 c7)
        (try (have c7b3 := c7; simp only [ByteArray.size_append, ByteArray.size_extract] at c7b3; have c7b4 := eq_true c7b3; have c7b5 := decide_eq_true c7b3; have c7b6 := eq_false (Nat.not_lt.2 c7b3)))
        replace H := Option.bind_eq_some_iff.mp H
        obtain ⟨t181, A80, H⟩ := H
        try dsimp only at H
        have A8 := Aside0.mk A80
        clear A80
        by_cases c9 : x3_1.length < 8796093022208
        ·rw [if_pos c9] at H
         have LMc9 := Aside0.mk c9
         clear c9
         obtain ⟨y182, hy182⟩ : ∃ y_ : List ByteArray, y_ = (x3_1 ++ [t181]) := ⟨_, rfl⟩
         replace H : (rec_Cut.l0 k1 (x0_1.extract ((ji4) : Int).toNat x0_1.size) y182) = some r := by first | (rw [hy182]; with_reducible exact H) | (have H2_ := (Option.bind_some _ _).symm.trans H; rw [hy182]; with_reducible exact H2_) | (have H2_ := (Option.bind_some _ _).symm.trans H; with_reducible exact H2_) | with_reducible exact H | (rw [hy182]; exact H) | exact H
         have Ny182 := Aside0.mk hy182
         clear hy182
         have c10b0 := eq_true (of_decide_eq_true aS : 0 ≤ (ji4))
         have c11b0 := eq_true (of_decide_eq_true aS : (ji4) ≤ (x0_1.size : Int))
         have H' := Aside0.mk H
         clear H
         go_wp2_with (first | ((with_reducible refine gate_callee (f := 63) rfl ?_); refine goesL_ (some 18) rfl rfl Try.func63 (by kernel_rfl) rfl #[.string ((⟨#[68]⟩ : ByteArray) ++ (x0_1.extract 0 ((ji4) : Int).toNat))] rfl (by (try simp only [List.map_toArray, List.map_cons, List.map_nil]); first | done | (simp only [hji4]; rfl) | rfl | (simp only [List.length_drop, List.length_take]; rfl)) ?_; (with_reducible refine (rec_filled.calls ((⟨#[68]⟩ : ByteArray) ++ (x0_1.extract 0 ((ji4) : Int).toNat)) t181 _ A8.out).mono ?_); rintro e w12 ⟨rfl, hb⟩; refine ⟨_, rfl, ?_⟩; have n0_ := Aside0.mk (Kd.R_below (qR HO_3.out) hb); have n1_ := wH hb; clear HO_3; clear HB; have HO_3 := n0_; have HB := n1_; clear n0_ n1_; (try clear hb); (try clear hb2); (try clear hk); (try clear hi)) | ((with_reducible refine gate_builtin (b := .append) (xs := #[.tmp 13, .tmp 19]) rfl ?_); at_builtin; refine Kd.R_append Kd.string (w0 := w) w.heap.size rfl (.tmp 13) (.tmp 19) 22 9 (.string ⟨#[]⟩) 16 rfl Try.underlying22 info9 rfl (by decide) (by omega) u3 x3_1 t181 [.string t181] (fun _ => True) (fun _ => False) rfl rfl ?aP (fun _ hk => hk.elim) ?aF ?aO ?aB ?aS ?aL ?_; (case aP => exact rfl); (case aB => exact qH); (case aF => exact (fun _ _ => trivial)); (case aO => exact (qR HO_3.out)); (case aS => exact (below_size qH)); (case aL => have := LMc9.out; omega); intro v183 w13 ho hb hg hat; rw [← Ny182.out] at ho; have n0_ := Aside0.mk (hb); have n1_ := Aside0.mk (ho); clear HB; clear HO_3; have HB := n0_; have HO184 := n1_; clear n0_ n1_; clear ho hb hg hat))
         go_roundg k1
         case measure => have := HK1.out; omega
         case rel => exact ⟨(x0_1.extract ((ji4) : Int).toNat x0_1.size), (y182), (by first | rfl | (simp; done) | (simp only [← hji4] <;> (first | rfl | simp)) | (simp [*]; done)), H', ⟨by have := HK1.out; omega⟩, ⟨qR HO184.out⟩, ⟨qH⟩⟩
        ·rw [if_neg c9] at H
         exact absurd H (by simp)
       ·rw [if_neg c7] at H
        exact absurd H (by simp)
      ·rw [if_neg c6] at H
       exact absurd H (by simp)
     ·rw [if_neg c5] at H
      exact absurd H (by simp)
end Go.Proofs.Ythoddglnfdmdeaa.P
