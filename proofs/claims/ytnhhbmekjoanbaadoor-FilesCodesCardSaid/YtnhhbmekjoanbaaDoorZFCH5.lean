/- files: byPath, and slices.BinarySearchFunc with it. -/
import Derived.Test.YtnhhbmekjoanbaaDoorZFCH4
import Derived.Test.YtnhhbmekjoanbaaDoorZFCH0
import Derived.Test.YtnhhbmekjoanbaaDoorZFCM0
import Derived.Laws.IdiomCopy
import Derived.Lib.AppendZerosOnto
import Derived.Lib.Overlaps
import Derived.Shelf.AbstractIn
namespace Go.Proofs.YtnhhbmekjoanbaaDoor.P
open Go.RowKit Go.Proofs.YtnhhbmekjoanbaaDoorW.PrintWords Go.Proofs.YtnhhbmekjoanbaaDoorW.PrintLast Go.Proofs.YtnhhbmekjoanbaaDoorW.PrintMore
attribute [local go_sem] max2_int min2_int max_two min_two max_three min_three max_four min_four
set_option linter.unusedVariables false
set_option linter.unusedSimpArgs false
/-- How two texts stand to one another. -/
def cmpS (a b : ByteArray) : Int := Lib.compareBytes a.data.toList b.data.toList
set_option maxHeartbeats 2000000 in
set_option maxRecDepth 100000 in
theorem byPath_any (a b p : ByteArray) (W : World) :
    Calls Tryd.prog 54 #[.agg #[.string a, .string b], .string p] W fun e w' => e = .returned (.int .i64 (cmpS a p)) ∧ Below W.heap.size W w' := by
  have hu := Tryd.underlying49
  have hB := Aside0.mk (blk_new W (.cells #[.string a, .string b] 49 (0, 0)))
  have c0 : (W.alloc (.cells #[.string a, .string b] 49 (0, 0))).cell? ⟨W.heap.size, 0, none⟩ = some (.string a) := (blk_cell hB.out 0).trans rfl
  go_enter Tryd.func54, Tryd.ntmps54
  go_wp2_with (go_at_call 43; refine (Tryd.strings_Compare a p _).mono ?_; rintro e w2 ⟨rfl, rfl⟩)
  go_ret
  exact ⟨rfl, (Below.refl _ _).alloc (Nat.le_refl _) _⟩
/-- The place that a search by halves finds. -/
def binF (l : List S49) (p : ByteArray) : Nat → Nat → Nat → Nat
  | 0, i, _ => i
  | k + 1, i, j => if i < j then (if cmpS (rd_T49 l (((i + j) / 2 : Nat) : Int)).f0 p < 0 then binF l p k ((i + j) / 2 + 1) j else binF l p k i ((i + j) / 2)) else i
set_option maxHeartbeats 4000000 in
set_option maxRecDepth 100000 in
theorem binary_any (p : ByteArray) (A0 : Option Addr) (c0 : Nat) (l : List S49) (w : World) (h0 : Kd.C k49 w A0 l.length l) (g0 : l.length ≤ c0) (hl : l.length ≤ 1000000) (at_ : Nat) (hat : binF l p l.length 0 l.length = at_) (is : Bool) (his : (decide (at_ < l.length) && (cmpS (rd_T49 l (at_ : Int)).f0 p == 0)) = is) :
    Calls Tryd.prog 53 #[.slice A0 l.length c0, .string p, .func (.func 54) #[] #[]] w fun e w' => e = .returned (.tuple #[.int .i64 (at_ : Int), .bool is]) ∧ Below w.heap.size w w' := by
  have H0 := Aside0.mk h0
  have G0 := Aside0.mk g0
  have HL := Aside0.mk hl
  have HI := Aside0.mk his
  have HB := Aside0.mk (Below.refl w.heap.size w)
  have HX := Aside0.mk hat
  clear h0 g0 hl his hat
  have hu := Tryd.underlying49
  go_enter Tryd.func53, Tryd.ntmps53
  go_wp2_with (fail)
  go_loopg [9, 10] l.length (fun kq v9 v10 W => ∃ (i j : Nat), v9 = .int .i64 (i : Int) ∧ v10 = .int .i64 (j : Int) ∧ Aside0 (i ≤ j ∧ j ≤ l.length ∧ j - i ≤ kq) ∧ Aside0 (binF l p kq i j = at_) ∧ Aside0 (Below w.heap.size w W))
  case atStart => exact ⟨0, l.length, rfl, rfl, ⟨by omega⟩, HX, HB⟩
  case round =>
    clear HB HX
    obtain ⟨i, j, rfl, rfl, HJ, HX, HB⟩ := hrel
    have hj := HJ.out
    have hll := HL.out
    by_cases hij : i < j
    · cases gk with
      | zero => omega
      | succ k1 =>
        have hx := HX.out
        rw [binF, if_pos hij] at hx
        clear HX
        have d0 : decide ((i : Int) < (j : Int)) = true := decide_eq_true (by omega)
        have d1 : decide (i < j) = true := decide_eq_true hij
        obtain ⟨m, hm⟩ : ∃ m, (i + j) / 2 = m := ⟨_, rfl⟩
        rw [hm] at hx
        have hmi : i ≤ m ∧ m < j := by omega
        obtain ⟨ad, e1, hy0, hy1⟩ := at_T49 (Kd.C_below H0.out HB.out) (m : Int) (by omega) (by omega)
        have em : ((i : Int) + (j : Int)) / 2 = (m : Int) := by omega
        have p0 : (0 : Int) ≤ (m : Int) := by omega
        have p1 : (m : Int) < (l.length : Int) := by omega
        have HM := Aside0.mk hmi
        have HMM := Aside0.mk hm
        clear hm hmi
        subst e1
        rw [Int.toNat_natCast] at hy0 hy1
        generalize hq : rd_T49 l (m : Int) = q at *
        obtain ⟨q0, q1⟩ := q
        dsimp only at hy0 hy1 hx
        have CB := Aside0.mk (byPath_any q0 q1 p)
        clear hq
        by_cases hc : cmpS q0 p < 0
        · rw [if_pos hc] at hx
          have HX := Aside0.mk hx
          have d2 : decide (cmpS q0 p < 0) = true := decide_eq_true hc
          clear hx hc
          go_wp2_with (go_at_call 54; refine (CB.out _).mono ?_; rintro e w2 ⟨rfl, hb⟩; have HB2 := Aside0.mk (below_step HB.out hb); clear hb)
          go_roundg k1
          case measure => omega
          case rel => exact ⟨m + 1, j, by first | rfl | (have := HM.out; rw [IntWalk.wrap64_in _ (by omega)]; rfl), rfl, ⟨by have := HM.out; omega⟩, HX, HB2⟩
        · rw [if_neg hc] at hx
          have HX := Aside0.mk hx
          have d2 : decide (cmpS q0 p < 0) = false := decide_eq_false hc
          clear hx hc
          go_wp2_with (go_at_call 54; refine (CB.out _).mono ?_; rintro e w2 ⟨rfl, hb⟩; have HB2 := Aside0.mk (below_step HB.out hb); clear hb)
          go_roundg k1
          case measure => omega
          case rel => exact ⟨i, m, rfl, rfl, ⟨by have := HM.out; omega⟩, HX, HB2⟩
    · have e9 : i = at_ := by
        have h := HX.out
        cases gk with
        | zero => exact h
        | succ k => rw [binF, if_neg hij] at h; exact h
      subst e9
      have d0 : decide ((i : Int) < (j : Int)) = false := decide_eq_false (by omega)
      have d1 : decide (i < j) = false := decide_eq_false hij
      clear HX
      by_cases hi : i < l.length
      · obtain ⟨ad, e1, hy0, hy1⟩ := at_T49 (Kd.C_below H0.out HB.out) (i : Int) (by omega) (by omega)
        subst e1
        rw [Int.toNat_natCast] at hy0 hy1
        have his := HI.out
        rw [decide_eq_true hi, Bool.true_and] at his
        clear HI
        generalize hq : rd_T49 l (i : Int) = q at *
        obtain ⟨q0, q1⟩ := q
        dsimp only at hy0 hy1 his
        have CB := Aside0.mk (byPath_any q0 q1 p)
        clear hq
        have p0 : (0 : Int) ≤ (i : Int) := by omega
        have p1 : (i : Int) < (l.length : Int) := by omega
        have d2 : decide ((i : Int) < (l.length : Int)) = true := decide_eq_true p1
        have d3 : decide (i < l.length) = true := decide_eq_true hi
        go_wp2_with (go_at_call 54; refine (CB.out _).mono ?_; rintro e w2 ⟨rfl, hb⟩; have HB2 := Aside0.mk (below_step HB.out hb); clear hb)
        go_ret2
        subst his
        exact ⟨rfl, HB2.out⟩
      · have his := HI.out
        rw [decide_eq_false hi, Bool.false_and] at his
        subst his
        have d2 : decide ((i : Int) < (l.length : Int)) = false := decide_eq_false (by omega)
        have d3 : decide (i < l.length) = false := decide_eq_false hi
        go_wp2_with (fail)
        go_ret2
        exact ⟨rfl, HB.out⟩
end Go.Proofs.YtnhhbmekjoanbaaDoor.P
namespace Go.Proofs.YtnhhbmekjoanbaaDoor.P
open Go.RowKit Go.Proofs.YtnhhbmekjoanbaaDoorW.PrintWords Go.Proofs.YtnhhbmekjoanbaaDoorW.PrintLast Go.Proofs.YtnhhbmekjoanbaaDoorW.PrintMore Go.Proofs.YtnhhbmekjoanbaaDoor.Rg
attribute [local go_sem] max2_int min2_int max_two min_two max_three min_three max_four min_four
attribute [local go_sem] Oper.semAt_some
set_option linter.unusedVariables false
set_option linter.unusedSimpArgs false
theorem firstB_size (s : ByteArray) (h : (firstB s).2.1 = true) : (firstB s).2.2.size + 2 ≤ s.size := by
  revert h
  unfold firstB
  split
  · intro h; cases h
  split
  · intro h; cases h
  split
  · intro h; cases h
  split
  · intro _
    simp only [ByteArray.size_extract] at *
    omega
  unfold firstB.firstC
  split
  · intro h; cases h
  split
  · intro h; cases h
  intro _
  simp only [ByteArray.size_extract] at *
  omega
/-- What each yields. -/
def eachF : Nat → ByteArray → List (S45 × Bool)
  | 0, _ => []
  | k + 1, s => if s.size = 0 then [] else if (firstB s).2.1 = true then ((firstB s).1, true) :: eachF k (firstB s).2.2 else [((firstB s).1, false)]
def encO (x : S45 × Bool) : Array Value := #[.agg #[.bool x.1.f0, .string x.1.f1, .string x.1.f2], .bool x.2]
theorem leftC_eq {b : Nat} {x : ByteArray} {W : World} (h : W.heap[b]? = some (.cells #[.string x] 9 (0, 0))) : leftS b W = x.size := by
  unfold leftS; rw [show W.cell? ⟨b, 0, none⟩ = some (.string x) from (blk_cell h 0).trans rfl]
theorem empty_of {x : ByteArray} (h : x.size = 0) : x.toList.isEmpty = true := by
  rw [List.isEmpty_iff, ← List.length_eq_zero_iff]
  rw [show x.toList.length = x.size from by rw [Go.ByteArray.toList_eq]; exact data_length x]
  exact h
theorem full_of {x : ByteArray} (h : x.size ≠ 0) : x.toList.isEmpty = false := by
  rw [Bool.eq_false_iff]
  intro c
  rw [List.isEmpty_iff, ← List.length_eq_zero_iff] at c
  rw [show x.toList.length = x.size from by rw [Go.ByteArray.toList_eq]; exact data_length x] at c
  exact h c
set_option maxHeartbeats 8000000 in
set_option maxRecDepth 100000 in
theorem each_iter (n bs : Nat) (s : ByteArray) :
    Iter Tryd.prog n 61 #[.pointer (some ⟨bs, 0, none⟩)] encO (eachF s.size s) bs (fun k => k = bs) (fun W => W.heap[bs]? = some (.cells #[.string s] 9 (0, 0))) := by
  intro l J Jx W hW cJ cX hY h0
  have HY := Aside0.mk hY
  clear hY
  refine callsIn_of_wp Tryd.func61 rfl trivial ?_ rfl
  simp only [Tryd.ntmps61, List.size_toArray, List.length_cons, List.length_nil, Nat.reduceAdd, Nat.reduceSub, Array.replicate_succ, Array.replicate_zero, List.push_toArray, List.append_toArray, List.nil_append, List.cons_append]
  have HB := Aside0.mk hW
  clear hW
  have hu := Tryd.underlying45
  gi_wp2
  gi_loopw [] (fun wr => ∃ (x : ByteArray) (k : Nat) (done : List (S45 × Bool)), Aside0 (wr.heap[bs]? = some (.cells #[.string x] 9 (0, 0))) ∧ Aside0 (J done wr) ∧ Aside0 (eachF s.size s = done ++ eachF k x ∧ x.size ≤ k)) (fun wr => leftS bs wr)
  case atStart => exact ⟨s, s.size, [], HB, ⟨h0⟩, ⟨rfl, Nat.le_refl _⟩⟩
  case round =>
    clear HB h0
    obtain ⟨x, k, done, HB, HJ, HX⟩ := hrel
    have k0 : wr.cell? ⟨bs, 0, none⟩ = some (.string x) := (blk_cell HB.out 0).trans rfl
    by_cases hx0 : x.size = 0
    · have e0 := empty_of hx0
      have HE := Aside0.mk (show eachF k x = [] by cases k with | zero => rfl | succ k => rw [eachF, if_pos hx0])
      gi_wp2
      go_end0
      exact ⟨⟨_, rfl⟩, .inl (by have h := HX.out.1; rw [HE.out, List.append_nil] at h; rw [h]; exact HJ.out)⟩
    · have e0 := full_of hx0
      cases k with
      | zero => exact absurd (Nat.le_zero.1 HX.out.2) hx0
      | succ k =>
        have hx := HX.out.1
        rw [eachF, if_neg hx0] at hx
        have CF := Aside0.mk (first_calls bs x wr HB.out)
        have hsz := firstB_size x
        have HK := Aside0.mk HX.out.2
        clear HX
        generalize hf : firstB x = f at *
        obtain ⟨⟨o0, o1, o2⟩, is, rest⟩ := f
        dsimp only at hx CF hsz
        clear hf
        have HSZ := Aside0.mk hsz
        clear hsz hx0
        cases is with
        | false =>
          rw [if_neg (by decide)] at hx
          have HX := Aside0.mk hx
          clear hx
          gi_wp2_with (refine ⟨trivial, ?_⟩; gi_at_call 62; refine (callsIn_wide.2 CF.out).mono ?_; rintro e W2 ⟨rfl, hm⟩; have HM := Aside0.mk hm; clear hm; have HJ2 := Aside0.mk (HM.out.calm cJ HJ.out); have HJ4 := Aside0.mk (cJ.grow HJ2.out ((Below.refl _ W2).alloc (Nat.le_refl _) (.cells #[.bool o0, .string o1, .string o2] 45 (0, 0)))); have HB4 := Aside0.mk (blk_below HM.out.1 ((Below.refl _ W2).alloc (Nat.le_refl _) (.cells #[.bool o0, .string o1, .string o2] 45 (0, 0)))); obtain ⟨fn, tmps, assign, body, hy, hR⟩ := HY.out done (⟨o0, o1, o2⟩, false) [] _ HX.out HJ4.out; dsimp only [encO] at hy)
          refine hR.mono ?_
          rintro e W3 (⟨rfl, hJ3, hk3⟩ | ⟨rfl, hJx3⟩)
          · gi_wp2
            refine bodyPost_ret (results_none rfl _ _ _) rfl ?_
            exact ⟨⟨_, rfl⟩, .inl (by rw [HX.out]; exact hJ3)⟩
          · gi_wp2
            refine bodyPost_ret (results_none rfl _ _ _) rfl ?_
            exact ⟨⟨_, rfl⟩, .inr ⟨done, _, [], HX.out, hJx3⟩⟩
        | true =>
          rw [if_pos rfl] at hx
          have HX := Aside0.mk hx
          clear hx
          gi_wp2_with (refine ⟨trivial, ?_⟩; gi_at_call 62; refine (callsIn_wide.2 CF.out).mono ?_; rintro e W2 ⟨rfl, hm⟩; have HM := Aside0.mk hm; clear hm; have HJ2 := Aside0.mk (HM.out.calm cJ HJ.out); have HJ4 := Aside0.mk (cJ.grow HJ2.out ((Below.refl _ W2).alloc (Nat.le_refl _) (.cells #[.bool o0, .string o1, .string o2] 45 (0, 0)))); have HB4 := Aside0.mk (blk_below HM.out.1 ((Below.refl _ W2).alloc (Nat.le_refl _) (.cells #[.bool o0, .string o1, .string o2] 45 (0, 0)))); obtain ⟨fn, tmps, assign, body, hy, hR⟩ := HY.out done (⟨o0, o1, o2⟩, true) (eachF k rest) _ HX.out HJ4.out; dsimp only [encO] at hy)
          refine hR.mono ?_
          rintro e W3 (⟨rfl, hJ3, hk3⟩ | ⟨rfl, hJx3⟩)
          · have HB3 := Aside0.mk ((hk3 bs rfl).trans HB4.out)
            replace hJ3 := Aside0.mk hJ3
            clear hk3
            gi_wp2
            go_roundw
            case rel => exact ⟨rest, k, done ++ [(⟨o0, o1, o2⟩, true)], HB3, hJ3, ⟨by rw [HX.out, List.append_assoc]; rfl, by have := HSZ.out trivial; have := HK.out; omega⟩⟩
            case measure => rw [leftC_eq HB3.out, leftC_eq HB.out]; have := HSZ.out trivial; omega
          · gi_wp2
            refine bodyPost_ret (results_none rfl _ _ _) rfl ?_
            exact ⟨⟨_, rfl⟩, .inr ⟨done, _, _, HX.out, hJx3⟩⟩
end Go.Proofs.YtnhhbmekjoanbaaDoor.P
namespace Go.Proofs.YtnhhbmekjoanbaaDoor.P
open Go.RowKit Go.Proofs.YtnhhbmekjoanbaaDoorW.PrintWords Go.Proofs.YtnhhbmekjoanbaaDoorW.PrintLast Go.Proofs.YtnhhbmekjoanbaaDoorW.PrintMore
attribute [local go_sem] max2_int min2_int max_two min_two max_three min_three max_four min_four
set_option linter.unusedVariables false
set_option linter.unusedSimpArgs false
def getB (p : ByteArray) : List S49 → ByteArray × Bool
  | [] => (⟨#[]⟩, false)
  | x :: r => if (x.f0.toList == p.toList) = true then (x.f1, true) else getB p r
theorem idx_get (p : ByteArray) : ∀ (l : List S49) (i : Nat), (idxF p i l = -1 ∧ getB p l = (⟨#[]⟩, false)) ∨ ∃ (j : Nat) (h : j < l.length), idxF p i l = ((i + j : Nat) : Int) ∧ getB p l = (l[j].f1, true)
  | [], i => .inl ⟨rfl, rfl⟩
  | x :: r, i => by
    rw [idxF, getB]
    by_cases h : (x.f0.toList == p.toList) = true
    · rw [if_pos h, if_pos h]
      exact .inr ⟨0, by simp, by simp, rfl⟩
    · rw [if_neg h, if_neg h]
      rcases idx_get p r (i + 1) with ⟨h1, h2⟩ | ⟨j, hj, h1, h2⟩
      · exact .inl ⟨h1, h2⟩
      · exact .inr ⟨j + 1, by rw [List.length_cons]; omega, by rw [h1]; omega, h2⟩
theorem rdF_get (l : List S49) (j : Nat) (h : j < l.length) : rd_T49 l (j : Int) = l[j] := by
  unfold rd_T49
  rw [Int.toNat_natCast, List.getD_eq_getElem?_getD, List.getElem?_eq_getElem h]
  rfl
def files_Get.f (l : List S49) (p : ByteArray) : Option (ByteArray × Bool) := some (getB p l)
set_option maxHeartbeats 8000000 in
set_option maxRecDepth 100000 in
theorem files_Get.calls (A0 : Option Addr) (c0 : Nat) (l0 : List S49) (a1 : ByteArray) (r1 : ByteArray) (r2 : Bool) (w : World) (hr0 : Kd.C k49 w A0 l0.length l0) (hc0 : l0.length ≤ c0) (h : files_Get.f l0 a1 = some (r1, r2)) :
    Calls Tryd.prog 12 #[.slice A0 l0.length c0, .string a1] w fun e w' => e = .returned (.tuple #[.string r1, .bool r2]) ∧ Below w.heap.size w w' := by
  have hg := Option.some.inj h
  clear h
  have H0 := Aside0.mk hr0
  have G0 := Aside0.mk hc0
  have hu := Tryd.underlying49
  have hmf : ∀ (fn : Fn) (first cap : Array Value) (w : World), (Instr.makeFunc fn first cap).run Tryd.prog w = .ok (.func fn first cap) w := fun _ _ _ _ => rfl
  have b1 : Below w.heap.size w (w.alloc (.cells #[.string a1] 9)) := (Below.refl _ w).alloc (Nat.le_refl _) _
  have CI := Aside0.mk (index_any a1 w.heap.size A0 c0 l0 (w.alloc (.cells #[.string a1] 9)) (Kd.C_below hr0 b1) hc0 (blk_new w _))
  have B1 := Aside0.mk b1
  clear hr0 hc0 b1
  rcases idx_get a1 l0 0 with ⟨h1, h2⟩ | ⟨j, hj, h1, h2⟩
  · rw [h2] at hg
    obtain ⟨rfl, rfl⟩ := Prod.mk.inj hg
    rw [h1] at CI
    clear hg h1 h2
    go_enter Tryd.func12, Tryd.ntmps12
    go_wp2_with (go_at_call 30; refine CI.out.mono ?_; rintro e w2 ⟨rfl, hb⟩; have HB := Aside0.mk (below_step B1.out hb); clear hb)
    go_ret2
    exact ⟨rfl, HB.out⟩
  · rw [h2] at hg
    obtain ⟨g1, rfl⟩ := Prod.mk.inj hg
    rw [h1, Nat.zero_add] at CI
    have HX := Aside0.mk (show (rd_T49 l0 (j : Int)).f1 = r1 from by rw [rdF_get l0 j hj]; exact g1)
    have p1 : (j : Int) < (l0.length : Int) := by omega
    have p0 : (0 : Int) ≤ (j : Int) := by omega
    have n0 : decide ((j : Int) < 0) = false := decide_eq_false (by omega)
    clear hg h1 h2 hj g1
    go_enter Tryd.func12, Tryd.ntmps12
    go_wp2_with (go_at_call 30; refine CI.out.mono ?_; rintro e w2 ⟨rfl, hb⟩; have HB := Aside0.mk (below_step B1.out hb); clear hb; obtain ⟨ad, e1, hx0, hx1⟩ := at_T49 (Kd.C_below H0.out HB.out) _ p0 p1; rw [Int.toNat_natCast] at hx0 hx1; subst e1)
    go_ret2
    exact ⟨by rw [← HX.out]; rfl, HB.out⟩
end Go.Proofs.YtnhhbmekjoanbaaDoor.P
namespace Go.Proofs.YtnhhbmekjoanbaaDoor.P
open Go Go.RowKit Go.Proofs.YtnhhbmekjoanbaaDoorW.PrintWords Go.Proofs.YtnhhbmekjoanbaaDoorW.PrintLast Go.Proofs.YtnhhbmekjoanbaaDoorW.PrintMore
set_option linter.unusedVariables false
/-- ALL IS READ BEFORE ANYTHING IS WRITTEN: 'cs' is what src held before the call; elements of any size. -/
theorem run_copy_cellsK {P : Program} (w : World) (dT sT ty elem : TypeId) (s b o dLen dCap : Nat) (a : Addr) (sLen sCap m : Nat) (cs : List Value)
    (hu : P.underlying dT = some (.slice elem)) (hs : (P.info? elem).map (·.size) = some s) (hm : Nat.min sLen dLen = m) (hn : cs.length = m * s)
    (hsrc : ∀ j v, cs[j]? = some v → w.cell? (a.add j) = some v) (hc : ∀ j, j < cs.length → (w.cell? ⟨b, o + j, none⟩).isSome = true) (hf : ∀ j, j < cs.length → w.frozen? ⟨b, o + j, none⟩ = false) (h1 : ∀ v ∈ cs, v.oneCell' = true) :
    (Builtin.copy_ #[dT, sT] ty #[.slice (some ⟨b, o, none⟩) dLen dCap, .slice (some a) sLen sCap]).run P w = .ok (goInt m) (w.setCells b o cs) := by
  have hl := run_loadCells_list (P := P) w a cs hsrc
  have hst := run_storeCells_cells (P := P) b o cs 0 w (by simpa using hc) (by simpa using hf) h1
  cases hq : P.info? elem with
  | none => simp [hq] at hs
  | some i =>
    have hi : i.size = s := by simpa [hq] using hs
    simp [Builtin.copy_, run_underlying hu, Builtin.lenOf, Builtin.firstCells, sizeOf, typeInfo, hq, hi, hm, ← hn, hl, hst]
theorem run_clear_cellsK {P : Program} (w : World) (t e ty : TypeId) (z : Value) (ht : P.underlying t = some (.slice e)) (hv : ∀ w, (zeroValue e).run P w = .ok z w) (b o n c : Nat) (hn : 0 < n)
    (zs : List Value) (hz : (Builtin.zeroCells z.cells n).toList = zs) (hc : ∀ j, j < zs.length → (w.cell? ⟨b, o + j, none⟩).isSome = true) (hf : ∀ j, j < zs.length → w.frozen? ⟨b, o + j, none⟩ = false) (h1 : ∀ v ∈ zs, v.oneCell' = true) :
    (Builtin.clear_ #[t] ty #[.slice (some ⟨b, o, none⟩) n c]).run P w = .ok (.tuple #[]) (w.setCells b o zs) := by
  have hst := run_storeCells_cells (P := P) b o zs 0 w (by simpa using hc) (by simpa using hf) h1
  cases n with
  | zero => omega
  | succ n => simp [Builtin.clear_, run_underlying ht, hv, hz, hst]
theorem wp_copy_runJ {P : Program} (w : World) {o : Oper} {a : Act} {K : Act → World → Prop} {Q : Exit → Act → World → Prop} (d s : Operand) (t t' : TypeId)
    (ho : o.op = .call { callee := .builtin .copy, args := #[d, s], argTypes := #[t, t'] }) (v u : Value) (hd : a.eval d = v) (hs : a.eval s = u) {v' : Value} {w' : World}
    (hr : (Builtin.copy_ #[t, t'] o.type #[v, u]).run P w = .ok v' w') (h : K (a.put o.dst v') w') : o.wp P a w K Q := by
  unfold Oper.wp execOp
  simp only [ho, resolve, invoke, builtin, Sem.run_bind, Sem.run_pure, Result.andThen_ok, List.map_toArray, List.map_cons, List.map_nil, hd, hs, hr]
  exact h
theorem wpList_copy_runJ {P : Program} (w : World) {ops : Array Oper} {rest : List Oper} {o : Oper} {a : Act} {Q : Exit → Act → World → Prop} (hgd : o.guard = none) (d s : Operand) (t t' : TypeId)
    (ho : o.op = .call { callee := .builtin .copy, args := #[d, s], argTypes := #[t, t'] }) (v u : Value) (hd : a.eval d = v) (hs : a.eval s = u) {v' : Value} {w' : World}
    (hr : (Builtin.copy_ #[t, t'] o.type #[v, u]).run P w = .ok v' w') (h : wpList P ops Q rest (a.put o.dst v') w') : wpList P ops Q (o :: rest) a w :=
  wpList_plain hgd fun _ hK => wp_copy_runJ w d s t t' ho v u hd hs hr (hK _ _ h)
/-- .. and as one step of a region that draws (for 'go_region_law_o'). -/
theorem step_copy_runJ {P : Program} {ops : Array Oper} {o : Oper} {a : Act} {w : World} {K : Act → World → Prop} {Q : Exit → Act → World → Prop} {E : Prop}
    (hg : o.guard = none) (d x : Operand) (dT sT : TypeId) (hop : o.op = Op.call { callee := Callee.builtin Builtin.copy, args := #[d, x], argTypes := #[dT, sT] })
    (v u : Value) (hd : a.eval d = v) (hx : a.eval x = u) {v' : Value} {w' : World} (hr : (Builtin.copy_ #[dT, sT] o.type #[v, u]).run P w = .ok v' w') (hK : K (a.put o.dst v') w') :
    if Region.wanted o (yielded ops a.tmps) = true then Oper.wp P o a w K Q else E := by
  have hw : Region.wanted o (yielded ops a.tmps) = true := by simp [Region.wanted, hg]
  rw [if_pos hw]
  unfold Oper.wp
  simp [execOp, hop, resolve, invoke, builtin, hd, hx, hr, Result.andThen]
  exact hK
theorem step_append_runJ {P : Program} {ops : Array Oper} {o : Oper} {a : Act} {w : World} {K : Act → World → Prop} {Q : Exit → Act → World → Prop} {E : Prop}
    (hg : o.guard = none) (d x : Operand) (dT sT : TypeId) (hop : o.op = Op.call { callee := Callee.builtin Builtin.append, args := #[d, x], argTypes := #[dT, sT] })
    (v u : Value) (hd : a.eval d = v) (hx : a.eval x = u) {v' : Value} {w' : World} (hr : (Builtin.append_ #[dT, sT] o.type #[v, u]).run P w = .ok v' w') (hK : K (a.put o.dst v') w') :
    if Region.wanted o (yielded ops a.tmps) = true then Oper.wp P o a w K Q else E := by
  have hw : Region.wanted o (yielded ops a.tmps) = true := by simp [Region.wanted, hg]
  rw [if_pos hw]
  unfold Oper.wp
  simp [execOp, hop, resolve, invoke, builtin, hd, hx, hr, Result.andThen]
  exact hK
def encF (x : S49) : List Value := [.string x.f0, .string x.f1]
def flatF (xs : List S49) : List Value := (xs.map encF).flatten
theorem flatF_cons (x : S49) (xs : List S49) : flatF (x :: xs) = encF x ++ flatF xs := rfl
theorem flatF_append (xs ys : List S49) : flatF (xs ++ ys) = flatF xs ++ flatF ys := by unfold flatF; rw [List.map_append, List.flatten_append]
theorem flatF_length : ∀ xs : List S49, (flatF xs).length = xs.length * 2
  | [] => rfl
  | x :: r => by rw [flatF_cons, List.length_append, flatF_length r, List.length_cons]; show 2 + _ = _; omega
theorem flatF_take : ∀ (xs : List S49) (i : Nat), (flatF xs).take (i * 2) = flatF (xs.take i)
  | [], i => by simp [flatF]
  | x :: r, 0 => by simp [flatF]
  | x :: r, i + 1 => by
    rw [flatF_cons, List.take_succ_cons, flatF_cons, ← flatF_take r i, List.take_append, show (encF x).length = 2 from rfl, List.take_of_length_le (by show 2 ≤ _; omega)]
    congr 2; omega
theorem flatF_drop : ∀ (xs : List S49) (i : Nat), (flatF xs).drop (i * 2) = flatF (xs.drop i)
  | [], i => by simp [flatF]
  | x :: r, 0 => by simp [flatF]
  | x :: r, i + 1 => by
    rw [flatF_cons, List.drop_succ_cons, ← flatF_drop r i, List.drop_append, show (encF x).length = 2 from rfl, List.drop_of_length_le (by show 2 ≤ _; omega), List.nil_append]
    congr 1; omega
theorem flatF_one (xs : List S49) : ∀ u ∈ flatF xs, u.oneCell' = true := by
  intro u hu
  unfold flatF at hu
  rw [List.mem_flatten] at hu
  obtain ⟨l, hl, h⟩ := hu
  obtain ⟨x, _, rfl⟩ := List.mem_map.1 hl
  simp [encF] at h
  rcases h with rfl | rfl <;> rfl
theorem repsF_flat {w : World} {base : Nat} {ok : Nat → Prop} : ∀ (xs : List S49) (inner : List Value), Reps (k49.M w base ok) 2 xs inner → inner = flatF xs
  | [], inner, h => by
    have := h.1
    simp at this
    rw [this]; rfl
  | x :: r, inner, h => by
    have h0 := k49_openM (h.2 0 x rfl)
    rw [Nat.zero_mul, List.drop_zero] at h0
    have hr : Reps (k49.M w base ok) 2 r (inner.drop 2) := by
      refine ⟨by have := h.1; rw [List.length_drop, this, List.length_cons]; omega, fun j p hp => ?_⟩
      have h2 := h.2 (j + 1) p hp
      rw [List.drop_drop, show 2 + j * 2 = (j + 1) * 2 by omega]
      exact h2
    rw [flatF_cons, ← repsF_flat r _ hr, encF, ← h0, List.take_append_drop]
theorem flatF_reps' (w : World) (base : Nat) (ok : Nat → Prop) : ∀ (ys pre : List S49) (inner : List Value), Reps (k49.M w base ok) 2 pre inner → Reps (k49.M w base ok) 2 (pre ++ ys) (inner ++ flatF ys)
  | [], pre, inner, h => by simpa [flatF] using h
  | y :: r, pre, inner, h => by
    have h1 := flatF_reps' w base ok r (pre ++ [y]) (inner ++ encF y) (Reps.snoc h (k49_mkM w base ok y) rfl)
    rw [List.append_assoc, List.append_assoc] at h1
    exact h1
theorem flatF_reps (w : World) (base : Nat) (ok : Nat → Prop) (ys : List S49) : Reps (k49.M w base ok) 2 ys (flatF ys) :=
  flatF_reps' w base ok ys [] [] (Reps.none _ _)
/-- A row of files of one's own. -/
def OwnF (w : World) (base : Nat) (v : Value) (xs : List S49) : Prop := w.ownsRow base 49 2 v xs.length (flatF xs)
theorem OwnF.of {w : World} {base : Nat} {ok : Nat → Prop} {v : Value} {xs : List S49} (h : Kd.R k49 49 w base ok v xs) : OwnF w base v xs := by
  obtain ⟨_, inner, ho, hr⟩ := h
  rw [repsF_flat xs inner hr] at ho
  exact ho
theorem OwnF.to {w : World} {base : Nat} {v : Value} {xs : List S49} (h : OwnF w base v xs) : Kd.R k49 49 w base (fun _ => True) v xs :=
  ⟨fun _ _ => trivial, _, h, flatF_reps _ _ _ _⟩
theorem OwnF.mk {w : World} {base g c : Nat} {cur : Array Value} {xs : List S49} (hb : base ≤ g) (hh : w.heap[g]? = some (.cells cur 49 (0, 0))) (hn : xs.length ≤ c) (hc : c ≤ maxLen) (hs : cur.size = c * 2) (ht : cur.toList.take (xs.length * 2) = flatF xs) :
    OwnF w base (.slice (some ⟨g, 0, none⟩) xs.length c) xs := ⟨flatF_length xs, .inr ⟨g, c, cur, rfl, hb, hh, hn, hc, hs, ht⟩⟩
theorem OwnF.open {w : World} {base g n c : Nat} {xs : List S49} (h : OwnF w base (.slice (some ⟨g, 0, none⟩) n c) xs) : n = xs.length ∧ base ≤ g ∧ ∃ cur : Array Value, w.heap[g]? = some (.cells cur 49 (0, 0)) ∧ xs.length ≤ c ∧ c ≤ maxLen ∧ cur.size = c * 2 ∧ cur.toList.take (xs.length * 2) = flatF xs := by
  rcases h.2 with ⟨h1, _⟩ | ⟨g', c', cur, h1, h2, h3, h4, h5, h6, h7⟩
  · cases h1
  · injection h1 with ha hb hc
    injection ha with ha
    injection ha with ha
    subst ha; subst hc
    exact ⟨hb, h2, cur, h3, h4, h5, h6, h7⟩
theorem OwnF.form {w : World} {base : Nat} {v : Value} {xs : List S49} (h : OwnF w base v xs) : (v = .slice none 0 0 ∧ xs = []) ∨ ∃ g c, v = .slice (some ⟨g, 0, none⟩) xs.length c := by
  rcases h.2 with ⟨h1, h2⟩ | ⟨g', c', cur, h1, _⟩
  · exact .inl ⟨h1, List.eq_nil_of_length_eq_zero h2⟩
  · exact .inr ⟨g', c', h1⟩
/-- Cells written behind the row's elements. -/
theorem OwnF.past {w : World} {base g n c o : Nat} {xs : List S49} (h : OwnF w base (.slice (some ⟨g, 0, none⟩) n c) xs) (news : List Value) (ho : xs.length * 2 ≤ o) (hf : o + news.length ≤ c * 2) : OwnF (w.setCells g o news) base (.slice (some ⟨g, 0, none⟩) n c) xs := by
  obtain ⟨rfl, hb, cur, hh, hn, hc, hs, ht⟩ := h.open
  obtain ⟨cur', h3, h4, h5⟩ := setCells_row news o w cur hh (by omega)
  refine OwnF.mk hb h3 hn hc (by rw [h4, hs]) ?_
  have hl : cur.toList.length = c * 2 := by simp [hs]
  rw [h5, List.take_append_of_le_length (by rw [List.length_append, List.length_take, hl]; omega), List.take_append_of_le_length (by rw [List.length_take, hl]; omega), List.take_take, Nat.min_eq_left ho, ht]
theorem grown_setCells (w : World) (g o : Nat) (news : List Value) : w.grownBy (w.setCells g o news) (some g) := by
  obtain ⟨s1, s2, s3, s4⟩ := setCells_same g news o w
  exact ⟨s1, s2, s3, by rw [s4]; exact Nat.le_refl _, fun k' _ hk' => setCells_far news _ k' (fun he => hk' (by rw [he]))⟩
end Go.Proofs.YtnhhbmekjoanbaaDoor.P
namespace Go.Proofs.YtnhhbmekjoanbaaDoor.P
open Go.RowKit Go.Proofs.YtnhhbmekjoanbaaDoorW.PrintWords Go.Proofs.YtnhhbmekjoanbaaDoorW.PrintLast Go.Proofs.YtnhhbmekjoanbaaDoorW.PrintMore Go.Proofs.YtnhhbmekjoanbaaDoor.Rg
attribute [local go_sem] Oper.semAt_some
set_option linter.unusedVariables false
set_option linter.unusedSimpArgs false
def pathB (s : ByteArray) : Bool := decide (s.size ≤ 60) && (spl 47 s).all partB
set_option maxHeartbeats 4000000 in
set_option maxRecDepth 100000 in
theorem splitSeq_calls (s : ByteArray) (c : UInt8) (w : World) : Calls Tryd.prog 32 #[.string s, .string ⟨#[c]⟩] w fun e w' =>
    e = .returned (.func (.func 63) #[] #[.pointer (some ⟨w.heap.size + 1, 0, none⟩), .pointer (some ⟨w.heap.size, 0, none⟩), .pointer (some ⟨w.heap.size + 2, 0, none⟩)]) ∧ w' = ((w.alloc (.cells #[.string s] 9)).alloc (.cells #[.string ⟨#[c]⟩] 9)).alloc (.cells #[.int .i64 0] 3) := by
  go_enter Tryd.func32, Tryd.ntmps32
  have hmf : ∀ (fn : Fn) (first cap : Array Value) (w : World), (Instr.makeFunc fn first cap).run Tryd.prog w = .ok (.func fn first cap) w := fun _ _ _ _ => rfl
  go_wp2
  go_ret
  exact ⟨rfl, rfl⟩
theorem KeepsOthers.of_below {W W' : World} (hb : Below W.heap.size W W') : KeepsOthers W W' := ⟨hb.size, fun k o hk _ => (hb.block k (heap_lt hk)).trans hk⟩
theorem res_cell2 {tmps : Array Value} {W : World} {r : Nat} {b : Bool} (ht : tmps.getD 2 undef = .pointer (some ⟨r, 0, none⟩)) (h0 : W.cell? ⟨r, 0, none⟩ = some (.bool b)) : (results Tryd.f14 tmps).run Tryd.prog W = .ok (.bool b) W := by
  have e : Tryd.f14.results = #[.cell 2 4] := rfl
  unfold results
  rw [e]
  simp only [List.mapM_toArray, Array.mapM_eq_mapM_toList, List.mapM_cons, List.mapM_nil, ht]
  go_simp
def PathI (w : World) (q : ByteArray → Bool) (pre : List ByteArray) (W : World) : Prop :=
  W.heap[w.heap.size]? = some (.cells #[.bool false] 4 (0, 0)) ∧ Below w.heap.size w W ∧ pre.all q = true
def PathX (w : World) (q : ByteArray → Bool) (pre : List ByteArray) (W : World) : Prop :=
  W.heap[w.heap.size]? = some (.cells #[.bool false] 4 (0, 0)) ∧ Below w.heap.size w W ∧ pre.all q = false
set_option maxHeartbeats 8000000 in
set_option maxRecDepth 100000 in
theorem path_in (s : ByteArray) (hs : s.size ≤ 60) (w : World) : Calls Tryd.prog 14 #[.string s] w fun e w' => e = .returned (.bool ((spl 47 s).all partB)) ∧ Below w.heap.size w w' := by
  have HS := Aside0.mk (show s.size ≤ 1000000 by omega)
  have c60 : decide ((s.size : Int) > 60) = false := decide_eq_false (by omega)
  have c60' : decide (60 < s.size) = false := decide_eq_false (by omega)
  have c60'' : decide (60 < (s.size : Int)) = false := decide_eq_false (by omega)
  have HW := Aside0.mk (fun (x : ByteArray) (W : World) (hx : x.size ≤ 1000000) => (show Calls Tryd.prog 33 #[.string x] W fun e W' => e = .returned (.bool (partB x)) ∧ ∃ n, W' = W.drewN n from
    (files_part.calls 1000001 x (partB x) W (part_f x hx _ (by omega))).mono fun _ _ ⟨he, hd⟩ => ⟨he, hd.out⟩))
  clear hs
  refine (callsIn_wide (n := 3)).1 ?_
  refine callsIn_of_wp_marks Tryd.func14 rfl trivial ?_ rfl
  simp only [Tryd.ntmps14, List.size_toArray, List.length_cons, List.length_nil, Nat.reduceAdd, Nat.reduceSub, Array.replicate_succ, Array.replicate_zero, List.push_toArray, List.append_toArray, List.nil_append, List.cons_append]
  gi_wp2_with (refine ⟨trivial, ?_⟩; gi_at_call 32; refine (callsIn_wide.2 (splitSeq_calls s 47 _)).mono ?_; rintro e w' ⟨rfl, rfl⟩)
  have n1 : Below w.heap.size w (w.alloc (.cells #[.bool false] 4)) := (Below.refl _ w).alloc (Nat.le_refl _) _
  have n2 := ((n1.alloc (by simp) (.cells #[.string s] 9)).alloc (by simp; omega) (.cells #[.string ⟨#[47]⟩] 9)).alloc (by simp; omega) (.cells #[.int .i64 0] 3)
  have E0 : PathI w partB [] ((((w.alloc (.cells #[.bool false] 4)).alloc (.cells #[.string s] 9)).alloc (.cells #[.string ⟨#[47]⟩] 9)).alloc (.cells #[.int .i64 0] 3)) := by
    refine ⟨?_, n2, rfl⟩
    exact blk_alloc (blk_alloc (blk_alloc (blk_new w _) _) _) _
  have S0 : SeqB (w.heap.size + 1) 47 s ((((w.alloc (.cells #[.bool false] 4)).alloc (.cells #[.string s] 9)).alloc (.cells #[.string ⟨#[47]⟩] 9)).alloc (.cells #[.int .i64 0] 3)) := by
    refine ⟨?_, ?_, ?_⟩
    · refine blk_alloc (blk_alloc ?_ _) _
      have := blk_new (w.alloc (.cells #[.bool false] 4)) (.cells #[.string s] 9)
      rwa [World.size_alloc] at this
    · refine blk_alloc ?_ _
      have := blk_new ((w.alloc (.cells #[.bool false] 4)).alloc (.cells #[.string s] 9)) (.cells #[.string ⟨#[47]⟩] 9)
      rwa [World.size_alloc, World.size_alloc] at this
    · have := blk_new (((w.alloc (.cells #[.bool false] 4)).alloc (.cells #[.string s] 9)).alloc (.cells #[.string ⟨#[47]⟩] 9)) (.cells #[.int .i64 0] 3)
      rwa [World.size_alloc, World.size_alloc, World.size_alloc] at this
  have Z0 : ((((w.alloc (.cells #[.bool false] 4)).alloc (.cells #[.string s] 9)).alloc (.cells #[.string ⟨#[47]⟩] 9)).alloc (.cells #[.int .i64 0] 3)).heap.size = w.heap.size + 4 := by simp
  generalize ((((w.alloc (.cells #[.bool false] 4)).alloc (.cells #[.string s] 9)).alloc (.cells #[.string ⟨#[47]⟩] 9)).alloc (.cells #[.int .i64 0] 3)) = W0 at *
  clear n1 n2
  refine wp_range (n := 1) (gf := 63) rfl (enters_of Tryd.func63 (by kernel_rfl) rfl) (splitSeq_iter 1 (w.heap.size + 1) 47 s HS.out) (by omega) (fun k hk => by omega) (fun _ => rfl)
    (PathI w partB) (PathX w partB)
    ⟨fun h hb => ⟨held_grow h.1 hb, below_step h.2.1 hb, h.2.2⟩, fun v h => ⟨held_cell h.1 (by omega) v, h.2.1.setCell (by simp) v, h.2.2⟩⟩
    ⟨fun h hb => ⟨held_grow h.1 hb, below_step h.2.1 hb, h.2.2⟩, fun v h => ⟨held_cell h.1 (by omega) v, h.2.1.setCell (by simp) v, h.2.2⟩⟩
    (fun k o hk h _ => ⟨(World.putObj_heap_other (by omega)).trans h.1, put_below o h.2.1 (by omega), h.2.2⟩)
    (fun k o hk h _ => ⟨(World.putObj_heap_other (by omega)).trans h.1, put_below o h.2.1 (by omega), h.2.2⟩)
    E0 (fun x => { tmps := #[.string s, undef, .pointer (some ⟨w.heap.size, 0, none⟩), .string x, .string s, .int .i64 (s.size : Int), .bool false, .string s,
      .func (.func 63) #[] #[.pointer (some ⟨w.heap.size + 1 + 1, 0, none⟩), .pointer (some ⟨w.heap.size + 1, 0, none⟩), .pointer (some ⟨w.heap.size + 1 + 2, 0, none⟩)], .string x, undef, undef, undef], defers := [] })
    (fun W hb => S0.same fun k hk => hb.block k (by omega)) ?assign ?body ?done ?stop
  case assign =>
    intro l x W K hK
    gi_wp2
    exact hK
  case body =>
    intro l pre x post W hx hI
    have hxs : x.size ≤ 1000000 := Nat.le_trans (spl_sizes 47 s x (by rw [hx]; simp)) HS.out
    have cw := Aside0.mk (fun W => HW.out x W hxs)
    have k1 : W.cell? ⟨w.heap.size, 0, none⟩ = some (.bool false) := blk_cell hI.1 0
    have k2 : W.frozen? ⟨w.heap.size, 0, none⟩ = false := blk_frozen hI.1 0
    replace hI := Aside0.mk hI
    replace hx := Aside0.mk hx
    clear HW E0 S0
    cases e1 : partB x with
    | false =>
      rw [e1] at cw
      have E1 := Aside0.mk e1
      clear e1
      gi_wp2_with (first
        | (refine ⟨trivial, ?_⟩; gi_at_call 33; refine (CallsIn.inRound l (callsIn_wide.2 (cw.out _))).mono ?_; rintro e w' ⟨rfl, nd, rfl⟩))
      exact ⟨(KeepsOthers.of_below (pw_below_drewN (Below.refl _ W) nd)).trans (KeepsOthers.setCell _ _ _), blk_put (blk_drewN hI.out.1 nd) 0 _ rfl, (pw_below_drewN hI.out.2.1 nd).setCell (by simp) _, by rw [List.all_append]; simp [E1.out]⟩
    | true =>
      rw [e1] at cw
      have E1 := Aside0.mk e1
      clear e1
      gi_wp2_with (first
        | (refine ⟨trivial, ?_⟩; gi_at_call 33; refine (CallsIn.inRound l (callsIn_wide.2 (cw.out _))).mono ?_; rintro e w' ⟨rfl, nd, rfl⟩))
      exact ⟨KeepsOthers.of_below (pw_below_drewN (Below.refl _ W) _), fun _ _ => rfl, hI.out.1, pw_below_drewN hI.out.2.1 _, by rw [List.all_append, hI.out.2.2]; simp [E1.out]⟩
  case done =>
    intro D W hI hD hDl
    have k1 : W.cell? ⟨w.heap.size, 0, none⟩ = some (.bool false) := blk_cell hI.1 0
    have k2 : W.frozen? ⟨w.heap.size, 0, none⟩ = false := blk_frozen hI.1 0
    replace hI := Aside0.mk hI
    gi_wp2
    have hb := blk_put hI.out.1 0 (.bool true) (cs' := #[.bool true]) rfl
    refine ⟨by simp, .inl ⟨_, _, rfl, run_takeDeferred (held_cell hD (by omega) _), ?_⟩⟩
    exact ⟨_, res_cell2 (b := true) (r := w.heap.size) rfl (blk_cell (g := w.heap.size) ((World.putObj_heap_other (by omega)).trans hb) 0), by rw [hI.out.2.2], put_below _ (hI.out.2.1.setCell (by simp) _) (by omega)⟩
  case stop =>
    intro D pre x post W hx hI hD hDl
    have k1 : W.cell? ⟨w.heap.size, 0, none⟩ = some (.bool false) := blk_cell hI.1 0
    replace hI := Aside0.mk hI
    gi_wp2
    refine ⟨by simp, .inl ⟨_, _, rfl, run_takeDeferred hD, ?_⟩⟩
    exact ⟨_, res_cell2 (b := false) (r := w.heap.size) rfl (blk_cell (g := w.heap.size) ((World.putObj_heap_other (by omega)).trans hI.out.1) 0), by
      have h := hI.out.2.2
      rw [hx]
      rw [show pre ++ x :: post = (pre ++ [x]) ++ post by simp, List.all_append, h]; rfl, put_below _ hI.out.2.1 (by omega)⟩
set_option maxHeartbeats 8000000 in
set_option maxRecDepth 100000 in
theorem path_long (s : ByteArray) (hs : ¬ s.size ≤ 60) (w : World) : Calls Tryd.prog 14 #[.string s] w fun e w' => e = .returned (.bool false) ∧ Below w.heap.size w w' := by
  have c60 : decide ((s.size : Int) > 60) = true := decide_eq_true (by omega)
  have c60' : decide (60 < s.size) = true := decide_eq_true (by omega)
  have c60'' : decide (60 < (s.size : Int)) = true := decide_eq_true (by omega)
  clear hs
  go_enter Tryd.func14, Tryd.ntmps14
  go_wp2
  refine bodyPost_ret (res_cell2 (b := false) (r := w.heap.size) rfl ?_) rfl ?_
  · exact blk_cell (blk_new w (.cells #[.bool false] 4)) 0
  · exact ⟨rfl, (Below.refl _ _).alloc (Nat.le_refl _) _⟩
def files_Path.f (a0 : ByteArray) : Option Bool := some (pathB a0)
theorem files_Path.calls (a0 : ByteArray) (r : Bool) (w : World) (h : files_Path.f a0 = some r) : Calls Tryd.prog 14 #[.string a0] w fun e w' => e = .returned (.bool r) ∧ Below w.heap.size w w' := by
  obtain rfl := Option.some.inj h
  unfold pathB
  by_cases hs : a0.size ≤ 60
  · rw [decide_eq_true hs, Bool.true_and]; exact path_in a0 hs w
  · rw [decide_eq_false hs, Bool.false_and]; exact path_long a0 hs w
end Go.Proofs.YtnhhbmekjoanbaaDoor.P
