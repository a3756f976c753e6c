/- disk: New; slices.Repeat of one text, walked. -/
import Derived.Test.YtnoafmnjnmlhmaaZDTKFilled
import Derived.Laws.CopyOwn
import Derived.Deep.RegionLaw
import Derived.Outline
namespace Go.Proofs.Ytnoafmnjnmlhmaa.P
open Go.RowKit Go.Proofs.YtnoafmnjnmlhmaaW.PrintWords Go.Proofs.YtnoafmnjnmlhmaaW.PrintLast Go.Proofs.YtnoafmnjnmlhmaaW.PrintMore
attribute [local go_sem] max2_int min2_int max_two min_two max_three min_three max_four min_four
set_option linter.unusedVariables false
set_option linter.unusedSimpArgs false
/-- k texts z ahead of k' empty ones, and what lies behind them. -/
def RepRow (W : World) (g cap n k : Nat) (z : ByteArray) : Prop := ∃ cur : List Value, W.heap[g]? = some (.cells cur.toArray 9 (0, 0)) ∧ cur.length = cap ∧ cur.take n = List.replicate k (Value.string z) ++ List.replicate (n - k) (Value.string ⟨#[]⟩)
theorem rep_splice {cur : List Value} {n k m : Nat} {z e : Value} (hn : n ≤ cur.length) (hk : k + m ≤ n) (h : cur.take n = List.replicate k z ++ List.replicate (n - k) e) :
    (splice cur k (List.replicate m z)).take n = List.replicate (k + m) z ++ List.replicate (n - (k + m)) e := by
  have h1 : cur.take k = List.replicate k z := by
    have := congrArg (List.take k) h
    rw [List.take_take, Nat.min_eq_left (by omega)] at this
    rw [this, List.take_append_of_le_length (by simp), List.take_of_length_le (by simp)]
  have h2 : (cur.drop (k + m)).take (n - (k + m)) = List.replicate (n - (k + m)) e := by
    have := congrArg (List.drop (k + m)) h
    rw [List.drop_take] at this
    rw [this, List.drop_append, List.drop_of_length_le (by simp), List.nil_append, List.drop_replicate, List.length_replicate]
    congr 1; omega
  unfold splice
  rw [List.length_replicate, h1, ← List.append_assoc, List.replicate_append_replicate, List.take_append, List.take_of_length_le (by simp; omega), List.length_replicate, h2]
theorem RepRow.next {W' : World} {g cap n k m : Nat} {z : ByteArray} {cur : List Value} (hl : cur.length = cap) (hn : n ≤ cap) (hk : k + m ≤ n) (h : cur.take n = List.replicate k (Value.string z) ++ List.replicate (n - k) (Value.string ⟨#[]⟩))
    (h' : W'.heap[g]? = some (.cells (splice cur k (List.replicate m (Value.string z))).toArray 9 (0, 0))) : RepRow W' g cap n (k + m) z :=
  ⟨_, h', by rw [length_splice _ _ _ (by rw [List.length_replicate]; omega), hl], rep_splice (by omega) hk h⟩
set_option maxHeartbeats 8000000 in
set_option maxRecDepth 100000 in
theorem repeat_walk (z : ByteArray) (A : Option Addr) (c n : Nat) (w : World) (hr : Kd.C Kd.string w A 1 [z]) (hc : 1 ≤ c) (h1 : 1 ≤ n) (hn : n ≤ 512) :
    Calls Try.prog 35 #[.slice A 1 c, .int .i64 (n : Int)] w fun e w' => ∃ v0, e = .returned v0 ∧ Kd.R Kd.string 9 w' w.heap.size (fun _ => True) v0 (List.replicate n z) ∧ Below w.heap.size w w' := by
  have HR := Aside0.mk hr
  have HC := Aside0.mk hc
  have HN := Aside0.mk (And.intro h1 hn)
  have HB := Aside0.mk (Below.refl w.heap.size w)
  have d0 : decide ((n : Int) < 0) = false := decide_eq_false (by omega)
  have m0 : 1 * n / 18446744073709551616 = 0 := Nat.div_eq_of_lt (by omega)
  have m1 : 1 * n % 18446744073709551616 = n := by rw [Nat.mod_eq_of_lt (by omega), Nat.one_mul]
  have m2 : IntKind.u64.wrap (n : Int) = (n : Int) := by simp [IntKind.wrap, IntKind.bits, IntKind.signed]; omega
  have m3 : IntKind.i64.wrap (n : Int) = (n : Int) := by rw [IntKind.wrap_i64]; omega
  have m4 : decide ((n : Int) > 9223372036854775807) = false := decide_eq_false (by omega)
  have m5 : decide ((9223372036854775807 : Int) < (n : Int)) = false := decide_eq_false (by omega)
  clear hr hc h1 hn
  go_enter Try.func35, Try.ntmps35
  go_upto_region 7 with (first
    | (go_at_call 40; refine (Try.bits_Mul 1 n (by omega) (by have := HN.out; omega) _).mono ?_; rintro e w' ⟨rfl, hww⟩; subst w'; rw [m0, m1])
    | ((with_reducible refine gate_dst (N := 30) rfl ?_); refine Kd.R_make Kd.string (w0 := w) w.heap.size 9 rfl rfl 22 (.tmp 29) (.tmp 29) rfl (n : Int) rfl rfl Try.underlying22 (.string ⟨#[]⟩) 16 info9 rfl (by decide) (by decide) (⟨#[]⟩ : ByteArray) (okp := fun _ => False) (ok := fun _ => True) ?hz (fun _ h => h.elim) trivial (by omega) ?hl HB.out (Nat.le_refl _) ?_; (case hz => exact rfl); (case hl => have := HN.out; omega); intro v1 w1 ho hb hg hat; have HO1 := Aside0.mk ho; have HB1 := Aside0.mk hb; clear ho hb hg hat))
  have hown := Kd.own_of_R HO1.out
  rw [List.length_replicate, Int.toNat_natCast] at hown
  obtain ⟨-, ⟨-, h0⟩ | ⟨g, cap, cur, e1, hg, hh, hnc, hcm, hcs, htk⟩⟩ := hown
  · have := HN.out; omega
  subst e1
  obtain ⟨ad, ea, hx0⟩ := Kd.at_string HR.out 0 (by omega) (by omega)
  have hx1 : w.cell? (ad.add 0) = some (.string z) := hx0
  subst ea
  have HX := Aside0.mk (fun W (hb : Below w.heap.size w W) => (pw_cell_below hb hx1 : W.cell? (ad.add 0) = some (.string z)))
  have HG := Aside0.mk hg
  have HCP := Aside0.mk hnc
  have HCM := Aside0.mk hcm
  have HH := Aside0.mk (show w1.heap[g]? = some (.cells cur.toList.toArray 9 (0, 0)) from hh)
  have HT := Aside0.mk (show cur.toList.take n = List.replicate 0 (Value.string z) ++ List.replicate (n - 0) (Value.string ⟨#[]⟩) by rw [Nat.mul_one] at htk; rw [htk]; simp [encs])
  have HL := Aside0.mk (show cur.toList.length = cap by rw [Array.length_toList]; omega)
  clear hx0 hx1 hg hnc hcm hcs htk hh HO1 m0 m1 m2 m3 m4 m5 d0
  generalize cur.toList = cl at *
  have hsz : (Try.prog.info? 9).map (·.size) = some 1 := by kernel_rfl
  have HSZ := Aside0.mk hsz
  clear hsz
  go_wp2_with ((refine wpList_copy_splice rfl (.tmp 31) (.tmp 32) 22 22 rfl 9 Try.underlying22 HSZ.out (some ⟨g, 0, none⟩) (some ad) n cap 1 c rfl rfl g 0 cl 9 HH.out [.string z] ?c1 ?c2 ?c3 ?c4 w.heap.size w HB1.out HG.out ?_; (case c1 => exact (Nat.min_eq_left HN.out.1).symm); (case c2 => exact fun _ => ⟨rfl, ad, rfl, fun j v hv => by cases j with | zero => (obtain rfl := Option.some.inj hv; exact HX.out _ HB1.out) | succ j => simp at hv⟩); (case c3 => have := HL.out; have := HN.out; have := HCP.out; simp; omega); (case c4 => exact fun v hv => by simp at hv; subst hv; rfl); intro w2 hg2 hb2; have HG2 := Aside0.mk hg2; have HB2 := Aside0.mk hb2; clear hg2 hb2))
  have HT2 := Aside0.mk (RepRow.next (m := 1) HL.out HCP.out (by have := HN.out; omega) HT.out HG2.out.out)
  clear HT HL HH HG2 HX
  go_loopg [8] n (fun kq v8 W => ∃ k : Nat, v8 = .int .i64 (k : Int) ∧ Aside0 (1 ≤ k ∧ k ≤ n ∧ n ≤ kq + k) ∧ Aside0 (RepRow W g cap n k z) ∧ Aside0 (Below w.heap.size w W))
  case atStart => exact ⟨1, rfl, ⟨Nat.le_refl _, HN.out.1, by omega⟩, HT2, HB2⟩
  case round =>
    clear HT2 HB2
    obtain ⟨k, rfl, HK, HT, HB⟩ := hrel
    by_cases hlt : k < n
    · cases gk with
      | zero => have := HK.out; omega
      | succ k1 =>
        obtain ⟨cl, hcl, hll, htk⟩ := HT.out
        have HCL := Aside0.mk hcl
        have HLL := Aside0.mk hll
        have HTK := Aside0.mk htk
        have HLT := Aside0.mk hlt
        have d0 : decide ((k : Int) < (n : Int)) = true := decide_eq_true (by omega)
        have d1 : decide (k < n) = true := decide_eq_true hlt
        have p0 : (0 : Int) ≤ (k : Int) := by omega
        have p1 : (k : Int) ≤ (n : Int) := by omega
        have p2 : (k : Int) ≤ (cap : Int) := by have := HCP.out; omega
        have p3 : k ≤ n := by omega
        have p4 : k ≤ cap := by have := HCP.out; omega
        have p5 : ¬ cap = k := by have := HCP.out; omega
        clear hcl hll htk hlt
        have HM := Aside0.mk (show k + min k (n - k) ≤ n by omega)
        have HSRC := Aside0.mk (show ∀ (j : Nat) (v : Value), (List.replicate (min k (n - k)) (Value.string z))[j]? = some v → wr.cell? ((⟨g, 0, none⟩ : Addr).add j) = some v from by
          intro j v hv
          obtain ⟨hj, rfl⟩ := List.getElem?_eq_some_iff.1 hv
          rw [List.length_replicate] at hj
          rw [List.getElem_replicate]
          have hc := cell_of_row wr g j cl.toArray 9 (0, 0) HCL.out
          have hq : (cl.take n)[j]? = some (Value.string z) := by rw [HTK.out, List.getElem?_append_left (by rw [List.length_replicate]; omega), List.getElem?_replicate, if_pos (by omega)]
          rw [List.getElem?_take, if_pos (by have := HLT.out; omega)] at hq
          have he : (⟨g, 0, none⟩ : Addr).add j = ⟨g, j, none⟩ := by unfold Addr.add; split <;> simp_all
          rw [he, hc]; simpa using hq)
        have HWM := Aside0.mk (show IntKind.i64.wrap ((k : Int) + ((min k (n - k) : Nat) : Int)) = ((k + min k (n - k) : Nat) : Int) by rw [IntKind.wrap_i64]; have := HN.out; omega)
        go_wp2_with (fail)
        refine start_ (n := 10) (S := fun w' => True) (ds := []) #[false, false, false, false, false, false, false, false, false, false] (by kernel_rfl) rfl rfl trivial (fun hHeld => ?_)
        refine pure_ (i := 0) (N := some 38) (v := ?_) (a' := ?_) #[true, false, false, false, false, false, false, false, false, false] rfl rfl (by kernel_rfl) (fun _ _ _ h => h) (Or.inl ⟨by rfl, ?_⟩) ?_ ?_
        rotate_left
        · intro w'
          go_simp
          with_reducible rfl
        rotate_left
        · simp only [Act.put, List.setIfInBounds_toArray, List.set_cons_zero, List.set_cons_succ, i64_w, i32_w]
          rfl
        refine pure_ (i := 1) (N := some 39) (v := ?_) (a' := ?_) #[true, true, false, false, false, false, false, false, false, false] rfl rfl (by kernel_rfl) (fun _ _ _ h => h) (Or.inl ⟨by rfl, ?_⟩) ?_ ?_
        rotate_left
        · intro w'
          go_simp
          with_reducible rfl
        rotate_left
        · simp only [Act.put, List.setIfInBounds_toArray, List.set_cons_zero, List.set_cons_succ, i64_w, i32_w]
          rfl
        refine pure_ (i := 2) (N := some 40) (v := ?_) (a' := ?_) #[true, true, true, false, false, false, false, false, false, false] rfl rfl (by kernel_rfl) (fun _ _ _ h => h) (Or.inl ⟨by rfl, ?_⟩) ?_ ?_
        rotate_left
        · intro w'
          go_simp
          with_reducible rfl
        rotate_left
        · simp only [Act.put, List.setIfInBounds_toArray, List.set_cons_zero, List.set_cons_succ, i64_w, i32_w]
          rfl
        refine pure_ (i := 3) (N := some 41) (v := ?_) (a' := ?_) #[true, true, true, true, false, false, false, false, false, false] rfl rfl (by kernel_rfl) (fun _ _ _ h => h) (Or.inl ⟨by rfl, ?_⟩) ?_ ?_
        rotate_left
        · intro w'
          go_simp
          with_reducible rfl
        rotate_left
        · simp only [Act.put, List.setIfInBounds_toArray, List.set_cons_zero, List.set_cons_succ, i64_w, i32_w]
          rfl
        refine pure_ (i := 4) (N := some 42) (v := ?_) (a' := ?_) #[true, true, true, true, true, false, false, false, false, false] rfl rfl (by kernel_rfl) (fun _ _ _ h => h) (Or.inl ⟨by rfl, ?_⟩) ?_ ?_
        rotate_left
        · intro w'
          go_simp
          with_reducible rfl
        rotate_left
        · simp only [Act.put, List.setIfInBounds_toArray, List.set_cons_zero, List.set_cons_succ, i64_w, i32_w]
          rfl
        refine pure_ (i := 5) (N := some 43) (v := ?_) (a' := ?_) #[true, true, true, true, true, true, false, false, false, false] rfl rfl (by kernel_rfl) (fun _ _ _ h => h) (Or.inl ⟨by rfl, ?_⟩) ?_ ?_
        rotate_left
        · intro w'
          go_simp
          with_reducible rfl
        rotate_left
        · simp only [Act.put, List.setIfInBounds_toArray, List.set_cons_zero, List.set_cons_succ, i64_w, i32_w]
          rfl
        refine pure_ (i := 6) (N := some 44) (v := ?_) (a' := ?_) #[true, true, true, true, true, true, true, false, false, false] rfl rfl (by kernel_rfl) (fun _ _ _ h => h) (Or.inl ⟨by rfl, ?_⟩) ?_ ?_
        rotate_left
        · intro w'
          go_simp
          with_reducible rfl
        rotate_left
        · simp only [Act.put, List.setIfInBounds_toArray, List.set_cons_zero, List.set_cons_succ, i64_w, i32_w]
          rfl
        refine one_ (i := 7) (N := some 45) #[true, true, true, true, true, true, true, true, false, false] rfl rfl (by kernel_rfl) (by decide) (fun K hK => ?_)
        refine step_copy_splice rfl (.tmp 41) (.tmp 44) 22 22 rfl 9 Try.underlying22 HSZ.out _ _ _ _ _ _ rfl rfl g k cl 9 HCL.out (List.replicate (min k (n - k)) (Value.string z)) ?c1 ?c2 ?c3 ?c4 w.heap.size w (by first | exact HB.out | exact below_drew1 HB.out) HG.out ?_
        case c1 => rw [List.length_replicate]
        case c2 => exact fun _ => ⟨rfl, _, rfl, HSRC.out⟩
        case c3 => rw [List.length_replicate]; have := HM.out; have := HLL.out; have := HCP.out; omega
        case c4 => exact fun v hv => by rw [List.eq_of_mem_replicate hv]; rfl
        intro w4 hg4 hb4
        have HG4 := Aside0.mk hg4
        have HB4 := Aside0.mk hb4
        clear hg4 hb4
        rw [List.length_replicate]
        refine hK.out _ _ trivial (fun hHeld => ?_)
        clear hK K
        refine norm_ (a' := ?_) ?_ ?_
        rotate_left
        · show Act.put _ (some 45) _ = _
          simp only [Act.put, List.setIfInBounds_toArray, List.set_cons_zero, List.set_cons_succ, i64_w, i32_w]
          rfl
        refine pure_ (i := 8) (N := some 46) (v := ?_) (a' := ?_) #[true, true, true, true, true, true, true, true, true, false] rfl rfl (by kernel_rfl) (fun _ _ _ h => h) (Or.inl ⟨by rfl, ?_⟩) ?_ ?_
        rotate_left
        · intro w'
          go_simp
          with_reducible rfl
        rotate_left
        · simp only [Act.put, List.setIfInBounds_toArray, List.set_cons_zero, List.set_cons_succ, i64_w, i32_w]
          rfl
        refine pure_ (i := 9) (N := some 8) (v := ?_) (a' := ?_) #[true, true, true, true, true, true, true, true, true, true] rfl rfl (by kernel_rfl) (fun _ _ _ h => h) (Or.inl ⟨by rfl, ?_⟩) ?_ ?_
        rotate_left
        · intro w'
          go_simp
          with_reducible rfl
        rotate_left
        · simp only [Act.put, List.setIfInBounds_toArray, List.set_cons_zero, List.set_cons_succ, i64_w, i32_w]
          rfl
        refine done_ (by kernel_rfl) ?_
        all_goals
          have HT4 := Aside0.mk (RepRow.next (m := min k (n - k)) HLL.out HCP.out HM.out HTK.out HG4.out.out)
          have hwm := HWM.out
          go_wp2
          go_roundg k1
          case measure => omega
          case rel => exact ⟨k + min k (n - k), by first | rfl | (rw [HWM.out]) | (rw [show wrap64 ((k : Int) + ((min k (n - k) : Nat) : Int)) = ((k + min k (n - k) : Nat) : Int) by unfold wrap64; have := HN.out; omega]), ⟨by have := HK.out; omega, by have := HM.out; omega, by have := HK.out; have := HLT.out; omega⟩, HT4, HB4⟩
    · have hk : k = n := by have := HK.out; omega
      subst hk
      have d0 : decide ((k : Int) < (k : Int)) = false := decide_eq_false (by omega)
      have d1 : decide (k < k) = false := decide_eq_false (by omega)
      clear hlt
      go_wp2
      go_ret
      obtain ⟨cl, hcl, hll, htk⟩ := HT.out
      refine ⟨_, rfl, Kd.R_of_own ?_ (fun _ _ => trivial), HB.out⟩
      rw [List.length_replicate]
      refine ⟨by simp [encs], .inr ⟨g, cap, cl.toArray, rfl, HG.out, hcl, HCP.out, HCM.out, by rw [List.size_toArray, Nat.mul_one, hll], ?_⟩⟩
      rw [Nat.mul_one]
      show cl.take k = _
      rw [htk, Nat.sub_self]
      simp [encs]
end Go.Proofs.Ytnoafmnjnmlhmaa.P
