/- SumOne, walked by hand: it writes into bytes that a conversion of a text has made. -/
import Derived.Test.YtgjgdahjjegbiaaSumB
import Derived.Test.YtgjgdahjjegbiaaSumT
import Derived.Test.YtgjgdahjjegbiaaBRow
import Derived.Test.YtgjgdahjjegbiaaPx2
import Derived.Lib.AtoiErrMem
namespace Go.Proofs.Ytgjgdahjjegbiaa.P
open Go.RowKit Go.Proofs.YtgjgdahjjegbiaaW.PrintWords Go.Proofs.YtgjgdahjjegbiaaW.PrintLast Go.Proofs.YtgjgdahjjegbiaaW.PrintMore Go.Proofs.Ytgjgdahjjegbiaa.Pl
attribute [local go_sem] max2_int min2_int max_two min_two max_three min_three max_four min_four
set_option linter.unusedVariables false
set_option linter.unusedSimpArgs false
theorem name_world {P : Program} {c : Code} {Q : Exit → Act → World → Prop} {a : Act} {W : World} (φ : World → Prop) (F : φ W) (h : ∀ W1, φ W1 → c.wp P Q a W1) : c.wp P Q a W := h W F

/-- What the first half leaves: a world with one more row of bytes. -/
def St (w : World) (g n : Nat) (xs : List Int) (W : World) : Prop :=
  BRow W g n xs ∧ Below w.heap.size w W ∧ w.heap.size ≤ g

set_option maxHeartbeats 8000000 in
set_option maxRecDepth 100000 in
theorem one_walk (s : ByteArray) (at_ : Nat) (b : Int) (w : World) (k : Nat) (r r1 r2 : Int)
    (h0 : decide (70000 < (s.size : Int)) = false) (h0' : decide (70000 < s.size) = false) (ha : at_ < s.size) (hb : 0 ≤ b) (hb' : b ≤ 255)
    (hr : Aside0 (sum_Of.f k s = some r)) (hr1 : Aside0 (sum_Of.f k (strOfNums ((bs s).set at_ b)) = some r1))
    (hr2 : Aside0 (∀ h : at_ + 1 < s.size, sum_Of.f k (strOfNums (((bs s).set at_ ((s[at_ + 1]'h).toNat : Int)).set (at_ + 1) ((s[at_]'ha).toNat : Int))) = some r2))
    (hl : Aside0 (armadalaw02_live.f k = some true)) (q : Bool) (hd1 : (r1 == r) = q) (hd1' : ((strOfNums ((bs s).set at_ b)).toList == s.toList) = q)
    (hd2 : Aside0 (∀ h : at_ + 1 < s.size, ∃ q, (r2 == r) = q ∧ (((s[at_]'ha).toNat : Int) == ((s[at_ + 1]'h).toNat : Int)) = q)) :
    Calls Try.prog 5 #[.string s, .int .i64 (at_ : Int), .int .i64 b] w fun e w' => e = .returned (.bool true) ∧ Below w.heap.size w w' := by
  have hc1 : decide ((at_ : Int) < 0) = false := decide_eq_false (by omega)
  have hc2 : decide ((s.size : Int) ≤ (at_ : Int)) = false := decide_eq_false (by omega)
  have hc2' : decide (s.size ≤ at_) = false := decide_eq_false (by omega)
  have hc3 : decide (b < 0) = false := decide_eq_false (by omega)
  have hc4 : decide (255 < b) = false := decide_eq_false (by omega)
  have hc5 : decide (at_ < s.size) = true := decide_eq_true ha
  have hs64 : s.size ≤ 9223372036854775807 := by have := of_decide_eq_false h0'; omega
  have hb8 : b % 256 = b := by omega
  have R0 := BRow.new w 5 s hs64
  have F1 := (R0.2.2 at_ ha).1
  have F2 := (R0.2.2 at_ ha).2
  have kb := fun W => print_bytes (P := Try.prog) 9 29 5 Try.underlying9 Try.underlying29 Try.underlying5 s W
  go_enter Try.func5, Try.ntmps5
  go_wp2
  refine name_world (fun W => BRow W w.heap.size s.size ((bs s).set at_ b) ∧ Below w.heap.size w W ) ⟨R0.set at_ b, ?_⟩ ?_
  · exact (Lib.bytesWorld_below w 5 s).setCell (Nat.le_refl _) _
  rintro W1 ⟨R1, B1⟩
  have kc : ∀ (m cap : Nat), (convert 29 9 (.slice (some ⟨w.heap.size, 0, none⟩) s.size cap)).run Try.prog (W1.drewN m) = .ok (.string (strOfNums ((bs s).set at_ b))) (W1.drewN m) := fun m cap => (R1.drewN m).string Try.underlying29 Try.underlying5 Try.underlying9 cap
  generalize hS : strOfNums ((bs s).set at_ b) = S1 at *
  go_quiet (first | (go_at_call 9; first | exact quietD (sum_Of.calls k S1 r1 _ hr1.out) | exact quietD (sum_Of.calls k s r _ hr.out)))
  clear kc hr1 F1 F2 R0
  have B2 : Below w.heap.size w (W1.drewN nq) := pw_below_drewN B1 nq
  generalize W1.drewN nq = W2 at *
  by_cases hat : at_ + 1 = s.size
  · have hc6 : decide ((at_ : Int) = (s.size : Int) - 1) = true := decide_eq_true (by omega)
    have hc7 : ((at_ : Int) == (s.size : Int) - 1) = true := by simp; omega
    go_wp2_with (go_at_call 8; (with_reducible refine (armadalaw02_live.calls k true _ hl.out).mono ?_); rintro e w' ⟨rfl, ⟨nd, rfl⟩⟩)
    go_ret
    exact ⟨rfl, pw_below_drewN B2 nd⟩
  · have hat2 : at_ + 1 < s.size := by omega
    have hc6 : decide ((at_ : Int) = (s.size : Int) - 1) = false := decide_eq_false (by omega)
    have hc7 : ((at_ : Int) == (s.size : Int) - 1) = false := by simp; omega
    have R0 := BRow.new W2 5 s hs64
    have F1 := (R0.2.2 at_ ha).1
    have F2 := (R0.2.2 at_ ha).2
    have F3 := (R0.2.2 (at_ + 1) hat2).1
    have F4 := (R0.2.2 (at_ + 1) hat2).2
    have hx : 0 ≤ (at_ : Int) + 1 ∧ (at_ : Int) + 1 < (s.size : Int) := ⟨by omega, by omega⟩
    have hx0 : 0 ≤ (at_ : Int) ∧ (at_ : Int) < (s.size : Int) := ⟨by omega, by omega⟩
    have hr2' := Aside0.mk (hr2.out hat2)
    obtain ⟨q2, hd2a, hd2b⟩ := hd2.out hat2
    go_wp2
    refine name_world (fun W => BRow W W2.heap.size s.size (((bs s).set at_ ((s[at_ + 1]'hat2).toNat : Int)).set (at_ + 1) ((s[at_]'ha).toNat : Int)) ∧ Below w.heap.size w W) ⟨(R0.set at_ _).set (at_ + 1) _, ?_⟩ ?_
    · exact ((B2.trans ((Lib.bytesWorld_below W2 5 s).mono B2.size)).setCell B2.size _).setCell B2.size _
    rintro W3 ⟨R3, B3⟩
    have kc : ∀ (m cap : Nat), (convert 29 9 (.slice (some ⟨W2.heap.size, 0, none⟩) s.size cap)).run Try.prog (W3.drewN m) = .ok (.string (strOfNums (((bs s).set at_ ((s[at_ + 1]'hat2).toNat : Int)).set (at_ + 1) ((s[at_]'ha).toNat : Int)))) (W3.drewN m) := fun m cap => (R3.drewN m).string Try.underlying29 Try.underlying5 Try.underlying9 cap
    clear F1 F2 F3 F4 R0
    generalize strOfNums (((bs s).set at_ ((s[at_ + 1]'hat2).toNat : Int)).set (at_ + 1) ((s[at_]'ha).toNat : Int)) = S3 at *
    go_quiet (first | (go_at_call 9; first | exact quietD (sum_Of.calls k S3 r2 _ hr2'.out) | exact quietD (sum_Of.calls k s r _ hr.out)) | (go_at_call 8; exact quietD (armadalaw02_live.calls k true _ hl.out)))
    go_wp2
    go_ret
    exact ⟨rfl, pw_below_drewN B3 _⟩

set_option maxHeartbeats 8000000 in
set_option maxRecDepth 100000 in
/-- Where the statement lets the input out. -/
theorem one_out (s : ByteArray) (at_ b : Int) (w : World) (k : Nat) (hl : Aside0 (armadalaw02_live.f k = some true)) (ho : ¬ (s.size ≤ 70000 ∧ 0 ≤ at_ ∧ at_ < s.size ∧ 0 ≤ b ∧ b ≤ 255)) :
    Calls Try.prog 5 #[.string s, .int .i64 at_, .int .i64 b] w fun e w' => e = .returned (.bool true) ∧ Below w.heap.size w w' := by
  have HB := Below.refl w.heap.size w
  by_cases h1 : 70000 < s.size
  · have h1a : decide (70000 < (s.size : Int)) = true := decide_eq_true (by omega)
    have h1b : decide (70000 < s.size) = true := decide_eq_true h1
    go_enter Try.func5, Try.ntmps5
    go_wp2_with (go_at_call 8; (with_reducible refine (armadalaw02_live.calls k true _ hl.out).mono ?_); rintro e w' ⟨rfl, ⟨nd, rfl⟩⟩)
    go_ret
    exact ⟨rfl, pw_below_drewN HB _⟩
  have h1a : decide (70000 < (s.size : Int)) = false := decide_eq_false (by omega)
  have h1b : decide (70000 < s.size) = false := decide_eq_false h1
  by_cases h2 : at_ < 0
  · have h2a : decide (at_ < 0) = true := decide_eq_true h2
    go_enter Try.func5, Try.ntmps5
    go_wp2_with (go_at_call 8; (with_reducible refine (armadalaw02_live.calls k true _ hl.out).mono ?_); rintro e w' ⟨rfl, ⟨nd, rfl⟩⟩)
    go_ret
    exact ⟨rfl, pw_below_drewN HB _⟩
  have h2a : decide (at_ < 0) = false := decide_eq_false h2
  by_cases h3 : (s.size : Int) ≤ at_
  · have h3a : decide ((s.size : Int) ≤ at_) = true := decide_eq_true h3
    go_enter Try.func5, Try.ntmps5
    go_wp2_with (go_at_call 8; (with_reducible refine (armadalaw02_live.calls k true _ hl.out).mono ?_); rintro e w' ⟨rfl, ⟨nd, rfl⟩⟩)
    go_ret
    exact ⟨rfl, pw_below_drewN HB _⟩
  have h3a : decide ((s.size : Int) ≤ at_) = false := decide_eq_false h3
  by_cases h4 : b < 0
  · have h4a : decide (b < 0) = true := decide_eq_true h4
    go_enter Try.func5, Try.ntmps5
    go_wp2_with (go_at_call 8; (with_reducible refine (armadalaw02_live.calls k true _ hl.out).mono ?_); rintro e w' ⟨rfl, ⟨nd, rfl⟩⟩)
    go_ret
    exact ⟨rfl, pw_below_drewN HB _⟩
  have h4a : decide (b < 0) = false := decide_eq_false h4
  have h5 : 255 < b := by omega
  have h5a : decide (255 < b) = true := decide_eq_true h5
  go_enter Try.func5, Try.ntmps5
  go_wp2_with (go_at_call 8; (with_reducible refine (armadalaw02_live.calls k true _ hl.out).mono ?_); rintro e w' ⟨rfl, ⟨nd, rfl⟩⟩)
  go_ret
  exact ⟨rfl, pw_below_drewN HB _⟩

theorem list_at (l : List Int) (i : Nat) (h : i < l.length) : l = l.take i ++ l[i] :: l.drop (i + 1) := by
  rw [List.getElem_cons_drop, List.take_append_drop]
theorem set_at (l : List Int) (i : Nat) (h : i < l.length) (v : Int) : l.set i v = l.take i ++ v :: l.drop (i + 1) := by
  rw [List.set_eq_take_append_cons_drop, if_pos h]
theorem set_two (p q : List Int) (a b x y : Int) (i : Nat) (h : p.length = i) : ((p ++ a :: b :: q).set i x).set (i + 1) y = p ++ x :: y :: q := by
  subst h
  simp [List.set_append]
theorem mem_set_range {l : List Int} (hl : ∀ c ∈ l, 0 ≤ c ∧ c ≤ 255) (i : Nat) (v : Int) (hv : 0 ≤ v ∧ v ≤ 255) : ∀ c ∈ l.set i v, 0 ≤ c ∧ c ≤ 255 := by
  intro c hc
  rcases List.mem_or_eq_of_mem_set hc with h | rfl
  · exact hl c h
  · exact hv
theorem bs_at (s : ByteArray) (i : Nat) (h : i < s.size) : (bs s)[i]'(by rw [bs_length]; exact h) = ((s[i]'h).toNat : Int) := by
  simp [bs]; rfl
theorem strOfNums_size (l : List Int) : (strOfNums l).size = l.length := by
  simp [strOfNums, ByteArray.size]

/-- Whatever the input. -/
theorem one_any (s : ByteArray) (at_ b : Int) (w : World) :
    Calls Try.prog 5 #[.string s, .int .i64 at_, .int .i64 b] w fun e w' => e = .returned (.bool true) ∧ Below w.heap.size w w' := by
  have hl : armadalaw02_live.f (s.size + 12) = some true := at_rounds armadalaw02_live.mono (Nat.le_add_left 12 _) (by decide +kernel)
  by_cases h : s.size ≤ 70000 ∧ 0 ≤ at_ ∧ at_ < s.size ∧ 0 ≤ b ∧ b ≤ 255
  · obtain ⟨h1, h2, h3, h4, h5⟩ := h
    obtain ⟨i, rfl⟩ : ∃ i : Nat, at_ = (i : Int) := ⟨at_.toNat, by omega⟩
    have hi : i < s.size := by omega
    have li : i < (bs s).length := by rw [bs_length]; exact hi
    have hR := bs_range s
    have hc := hR _ (List.getElem_mem li)
    have e0 := list_at (bs s) i li
    have gi : (bs s).getD i 0 = ((s[i]'hi).toNat : Int) := by
      rw [← bs_at s i hi, List.getD_eq_getElem?_getD, List.getElem?_eq_getElem li]; rfl
    have gj : ∀ h : i + 1 < s.size, (bs s).getD (i + 1) 0 = ((s[i + 1]'h).toNat : Int) := fun h => by
      rw [← bs_at s (i + 1) h, List.getD_eq_getElem?_getD, List.getElem?_eq_getElem (by rw [bs_length]; exact h)]; rfl
    have sz : ∀ l : List Int, l.length = s.size → (strOfNums l).size < s.size + 12 := fun l h => by rw [strOfNums_size]; omega
    refine one_walk s i b w (s.size + 12) _ _ (num (ofP (((bs s).set i ((bs s).getD (i + 1) 0)).set (i + 1) ((bs s).getD i 0)))) (decide_eq_false (by omega)) (decide_eq_false (by omega)) hi h4 h5 ⟨of_spec s (by omega) _ (by omega)⟩
      ⟨of_spec _ (by rw [strOfNums_size, List.length_set, bs_length]; omega) _ (sz _ (by rw [List.length_set, bs_length]))⟩
      ⟨fun h => ?_⟩ ⟨hl⟩ ((strOfNums ((bs s).set i b)).toList == s.toList) ?_ rfl ⟨fun h => ⟨_, ?_, rfl⟩⟩
    · rw [gi, gj h]
      have l2 : (((bs s).set i ((s[i + 1]'h).toNat : Int)).set (i + 1) ((s[i]'hi).toNat : Int)).length = s.size := by rw [List.length_set, List.length_set, bs_length]
      have r1 : 0 ≤ ((s[i + 1]'h).toNat : Int) ∧ ((s[i + 1]'h).toNat : Int) ≤ 255 := by have := (s[i + 1]'h).toNat_lt; omega
      have r0 : 0 ≤ ((s[i]'hi).toNat : Int) ∧ ((s[i]'hi).toNat : Int) ≤ 255 := by have := (s[i]'hi).toNat_lt; omega
      rw [of_spec _ (by rw [strOfNums_size, l2]; omega) _ (sz _ l2), bs_strOfNums _ (mem_set_range (mem_set_range hR i _ r1) _ _ r0)]
    · rw [bs_strOfNums _ (mem_set_range hR i b ⟨h4, h5⟩)]
      have e1 := set_at (bs s) i li b
      have k1 := one_differs ((bs s).take i) ((bs s).drop (i + 1)) b ((bs s)[i]) ⟨h4, h5⟩ hc
      rw [← e1, ← e0] at k1
      rw [Bool.eq_iff_iff]
      simp only [beq_iff_eq, ByteArray.toList_eq]
      rw [k1]
      constructor
      · intro hb
        have : (bs s).set i b = bs s := by rw [hb]; exact List.set_getElem_self li
        rw [this]
        refine congrArg (fun x : ByteArray => x.data.toList) (bs_inj ?_)
        exact bs_strOfNums _ hR
      · intro hq
        have hq' : strOfNums ((bs s).set i b) = s := by
          apply ByteArray.ext
          exact Array.toList_inj.mp hq
        have := congrArg bs hq'
        rw [bs_strOfNums _ (mem_set_range hR i b ⟨h4, h5⟩)] at this
        have h6 := List.getElem_set_self (l := bs s) (i := i) (a := b) (by rw [List.length_set]; exact li)
        rw [← h6]
        exact List.getElem_of_eq this _
    · rw [gi, gj h]
      have lj : i + 1 < (bs s).length := by rw [bs_length]; exact h
      have hc' := hR _ (List.getElem_mem lj)
      have e2 : (bs s).drop (i + 1) = (bs s)[i + 1] :: (bs s).drop (i + 1 + 1) := (List.getElem_cons_drop lj).symm
      have e3 : ((bs s).set i ((s[i + 1]'h).toNat : Int)).set (i + 1) ((s[i]'hi).toNat : Int) = (bs s).take i ++ ((s[i + 1]'h).toNat : Int) :: ((s[i]'hi).toNat : Int) :: (bs s).drop (i + 1 + 1) := by
        have lt : ((bs s).take i).length = i := by rw [List.length_take]; omega
        have e4 := e0
        rw [e2] at e4
        refine (congrArg (fun l : List Int => (l.set i ((s[i + 1]'h).toNat : Int)).set (i + 1) ((s[i]'hi).toNat : Int)) e4).trans ?_
        exact set_two ((bs s).take i) _ _ _ _ _ i lt
      have k1 := swap_differs ((bs s).take i) ((bs s).drop (i + 1 + 1)) ((bs s)[i + 1]) ((bs s)[i]) hc' hc
      rw [e2] at e0
      rw [e3, ← bs_at s i hi, ← bs_at s (i + 1) h]
      rw [Bool.eq_iff_iff]
      simp only [beq_iff_eq]
      rw [← e0] at k1
      rw [k1]
      exact eq_comm
  · exact one_out s at_ b w _ ⟨hl⟩ h
end Go.Proofs.Ytgjgdahjjegbiaa.P
