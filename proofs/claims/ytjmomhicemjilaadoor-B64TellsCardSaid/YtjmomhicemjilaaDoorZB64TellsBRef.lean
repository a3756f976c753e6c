/- The document's Encode: bit by bit; it comes to the same signs. -/
import Derived.Test.YtjmomhicemjilaaDoorZB64TellsBSpec
import Derived.Test.YtjmomhicemjilaaDoorZB64TellsM0
namespace Go.Proofs.YtjmomhicemjilaaDoor.Pl
set_option linter.unusedSimpArgs false
set_option linter.unusedVariables false
open Go.RowKit Go.Proofs.YtjmomhicemjilaaDoor.P Go.Proofs.YtjmomhicemjilaaDoorW.PrintWords Go.Proofs.YtjmomhicemjilaaDoorW.PrintLast Go.Proofs.YtjmomhicemjilaaDoorW.PrintMore
/-- The bits of a byte, the highest first. -/
def bitsOf (c : Int) : List Int := [c / 128 % 2, c / 64 % 2, c / 32 % 2, c / 16 % 2, c / 8 % 2, c / 4 % 2, c / 2 % 2, c % 2]
def bitsL : List Int → List Int
  | [] => []
  | c :: r => bitsOf c ++ bitsL r
theorem bitsL_length (l : List Int) : (bitsL l).length = 8 * l.length := by
  induction l with
  | nil => rfl
  | cons c r ih => rw [bitsL, List.length_append, ih, List.length_cons]; show 8 + _ = _; omega
theorem and_one (x : Int) (h0 : 0 ≤ x) (h1 : x ≤ 255) : Go.bits .and .i64 x 1 = x % 2 :=
  bits_mask .i64 63 (by decide) (fun n h0 h1 => by rw [IntKind.wrap_i64]; omega) 1 (by decide) x h0 (by omega)
theorem shr_eq (x : Int) (j : Nat) (hj : j ≤ 7) : shr .i64 x (j : Int) = x / 2 ^ j := by
  unfold shr
  rw [Int.toNat_natCast, show IntKind.i64.bits = 64 from rfl, Nat.min_eq_left (by omega)]
theorem div_le (x : Int) (j : Nat) (h0 : 0 ≤ x) (h1 : x ≤ 255) : 0 ≤ x / 2 ^ j ∧ x / 2 ^ j ≤ 255 := by
  have hp : (0 : Int) < 2 ^ j := Int.pow_pos (by decide)
  exact ⟨Int.ediv_nonneg h0 (Int.le_of_lt hp), Int.le_trans (Int.ediv_le_self _ h0) h1⟩
/-- The bits from a place down. -/
def low (c : Int) : Nat → List Int
  | 0 => []
  | j + 1 => (c / 2 ^ j % 2) :: low c j
theorem low_all (c : Int) : low c 8 = bitsOf c := by
  show [c / 2 ^ 7 % 2, c / 2 ^ 6 % 2, c / 2 ^ 5 % 2, c / 2 ^ 4 % 2, c / 2 ^ 3 % 2, c / 2 ^ 2 % 2, c / 2 ^ 1 % 2, c / 2 ^ 0 % 2] = _
  rw [show (2 : Int) ^ 7 = 128 from rfl, show (2 : Int) ^ 6 = 64 from rfl, show (2 : Int) ^ 5 = 32 from rfl, show (2 : Int) ^ 4 = 16 from rfl, show (2 : Int) ^ 3 = 8 from rfl, show (2 : Int) ^ 2 = 4 from rfl, show (2 : Int) ^ 1 = 2 from rfl, show (2 : Int) ^ 0 = 1 from rfl, Int.ediv_one]
  rfl
theorem enc_l1 (s : ByteArray) (i : Nat) (hi : i < s.size) (hs : s.size ≤ 4000) (r : ByteArray) (K : Nat) (j : Nat) : ∀ (x : List Int), j ≤ 8 → x.length + j ≤ 40000 → (∀ k, K ≤ k → armadaref13_Encode.l0 k s (x ++ low (bt s (i : Int)) j) ((i + 1 : Nat) : Int) = some r) →
    ∀ k, K + j + 1 ≤ k → armadaref13_Encode.l1 k s x (i : Int) ((j : Int) - 1) = some r := by
  have hb := bt_range s (i : Int)
  induction j with
  | zero =>
    intro x hj hx H k hk
    obtain ⟨k, rfl⟩ : ∃ m, k = m + 1 := ⟨k - 1, by omega⟩
    have := H k (by omega)
    rw [low, List.append_nil] at this
    rw [armadaref13_Encode.l1, if_neg (by omega), w64 (by omega) (by omega)]
    exact this
  | succ j ih =>
    intro x hj hx H k hk
    obtain ⟨k, rfl⟩ : ∃ m, k = m + 1 := ⟨k - 1, by omega⟩
    have hd := div_le (bt s (i : Int)) j hb.1 hb.2
    rw [armadaref13_Encode.l1, show ((j + 1 : Nat) : Int) - 1 = (j : Int) by omega, if_pos (by omega), if_pos (by omega), if_pos (by omega), if_pos (by omega), if_pos (by omega), w64 (x := bt s (i : Int)) (by omega) (by omega), shr_eq _ j (by omega), and_one _ hd.1 hd.2, w64 (x := (j : Int) - 1) (by omega) (by omega)]
    refine ih _ (by omega) (by rw [List.length_append, List.length_singleton]; omega) (fun k hk => ?_) k (by omega)
    have := H k hk
    rw [low] at this
    rw [List.append_assoc]
    exact this
theorem enc_l0 (s : ByteArray) (hs : s.size ≤ 4000) (r : ByteArray) (K : Nat) (H : ∀ k, K ≤ k → armadaref13_Encode.l2 k (bitsL (bs s)) = some r) (d : Nat) : ∀ (i : Nat) (x : List Int), s.size - i = d → i ≤ s.size → x.length = 8 * i → x ++ bitsL ((bs s).drop i) = bitsL (bs s) →
    ∀ k, K + 10 * d + 1 ≤ k → armadaref13_Encode.l0 k s x (i : Int) = some r := by
  induction d with
  | zero =>
    intro i x hd hi hl hx k hk
    obtain ⟨k, rfl⟩ : ∃ m, k = m + 1 := ⟨k - 1, by omega⟩
    rw [List.drop_of_length_le (by rw [bs_length]; omega), bitsL, List.append_nil] at hx
    rw [armadaref13_Encode.l0, if_neg (by omega), hx]
    exact H k (by omega)
  | succ d ih =>
    intro i x hd hi hl hx k hk
    obtain ⟨k, rfl⟩ : ∃ m, k = m + 1 := ⟨k - 1, by omega⟩
    have hlt : i < s.size := by omega
    rw [armadaref13_Encode.l0, if_pos (by omega)]
    refine enc_l1 s i hlt hs r (K + 10 * d + 1) 8 x (by omega) (by omega) (fun k hk => ?_) k (by omega)
    refine ih (i + 1) _ (by omega) (by omega) (by rw [List.length_append, low_all]; show x.length + 8 = _; omega) ?_ k hk
    rw [← hx, bs_drop s i hlt, bitsL, low_all, List.append_assoc]
theorem enc_l2 (r : ByteArray) (K : Nat) (z : Nat) : ∀ (x : List Int), x.length + z ≤ 40000 → (x.length + z) % 6 = 0 → z ≤ 5 → (∀ k, K ≤ k → armadaref13_Encode.l3 k (x ++ List.replicate z 0) [] 0 = some r) →
    ∀ k, K + z + 1 ≤ k → armadaref13_Encode.l2 k x = some r := by
  induction z with
  | zero =>
    intro x hx hm hz H k hk
    obtain ⟨k, rfl⟩ : ∃ m, k = m + 1 := ⟨k - 1, by omega⟩
    have := H k (by omega)
    rw [List.replicate_zero, List.append_nil] at this
    rw [armadaref13_Encode.l2, if_pos (by omega)]
    exact this
  | succ z ih =>
    intro x hx hm hz H k hk
    obtain ⟨k, rfl⟩ : ∃ m, k = m + 1 := ⟨k - 1, by omega⟩
    rw [armadaref13_Encode.l2, if_neg (by omega), if_pos (by omega)]
    refine ih (x ++ [0]) (by rw [List.length_append, List.length_singleton]; omega) (by rw [List.length_append, List.length_singleton]; omega) (by omega) (fun k hk => ?_) k (by omega)
    have := H k hk
    rw [List.replicate_succ] at this
    rw [List.append_assoc]
    exact this
/-- Six bits each, as a number. -/
def sext : List Int → List Int
  | a :: b :: c :: d :: e :: f :: r => (32 * a + 16 * b + 8 * c + 4 * d + 2 * e + f) :: sext r
  | _ => []
def Bits (l : List Int) : Prop := ∀ b ∈ l, 0 ≤ b ∧ b ≤ 1
theorem rd_get (l : List Int) (i : Nat) (h : i < l.length) : rd l (i : Int) = l[i] := by
  unfold rd
  rw [Int.toNat_natCast, List.getD_eq_getElem?_getD, List.getElem?_eq_getElem h]
  rfl
theorem enc_l5 (r : List Int) (z : Nat) : ∀ (x : List Int), x.length + z ≤ 40000 → (x.length + z) % 4 = 0 → z ≤ 3 → x ++ List.replicate z 61 = r → ∀ k, z + 1 ≤ k → armadaref13_Encode.l5 k x = some (strOfNums r) := by
  induction z with
  | zero =>
    intro x hx hm hz H k hk
    obtain ⟨k, rfl⟩ : ∃ m, k = m + 1 := ⟨k - 1, by omega⟩
    rw [List.replicate_zero, List.append_nil] at H
    rw [armadaref13_Encode.l5, if_pos (by omega), H]
  | succ z ih =>
    intro x hx hm hz H k hk
    obtain ⟨k, rfl⟩ : ∃ m, k = m + 1 := ⟨k - 1, by omega⟩
    rw [armadaref13_Encode.l5, if_neg (by omega), if_pos (by omega)]
    refine ih (x ++ [61]) (by rw [List.length_append, List.length_singleton]; omega) (by rw [List.length_append, List.length_singleton]; omega) (by omega) ?_ k (by omega)
    rw [List.replicate_succ] at H
    rw [List.append_assoc]
    exact H
theorem drop_six (xs : List Int) (i : Nat) (h : i + 6 ≤ xs.length) : xs.drop i = rd xs (i : Int) :: rd xs ((i + 1 : Nat) : Int) :: rd xs ((i + 2 : Nat) : Int) :: rd xs ((i + 3 : Nat) : Int) :: rd xs ((i + 4 : Nat) : Int) :: rd xs ((i + 5 : Nat) : Int) :: xs.drop (i + 6) := by
  rw [rd_get xs i (by omega), rd_get xs (i + 1) (by omega), rd_get xs (i + 2) (by omega), rd_get xs (i + 3) (by omega), rd_get xs (i + 4) (by omega), rd_get xs (i + 5) (by omega),
    List.drop_eq_getElem_cons (show i < xs.length by omega), List.drop_eq_getElem_cons (show i + 1 < xs.length by omega), List.drop_eq_getElem_cons (show i + 1 + 1 < xs.length by omega), List.drop_eq_getElem_cons (show i + 1 + 1 + 1 < xs.length by omega), List.drop_eq_getElem_cons (show i + 1 + 1 + 1 + 1 < xs.length by omega), List.drop_eq_getElem_cons (show i + 1 + 1 + 1 + 1 + 1 < xs.length by omega)]
theorem l4_step (xs acc : List Int) (i t : Nat) (n : Int) (hm : xs.length ≤ 40000) (h : i + t < xs.length) (ht : t < 6) (hb : Bits xs) (hn : 0 ≤ n ∧ n ≤ 100) (k : Nat) :
    armadaref13_Encode.l4 (k + 1) xs acc (i : Int) n (t : Int) = armadaref13_Encode.l4 k xs acc (i : Int) (2 * n + rd xs ((i + t : Nat) : Int)) ((t + 1 : Nat) : Int) := by
  have hr : 0 ≤ rd xs ((i + t : Nat) : Int) ∧ rd xs ((i + t : Nat) : Int) ≤ 1 := by rw [rd_get xs (i + t) h]; exact hb _ (List.getElem_mem h)
  have e1 : wrap64 ((i : Int) + (t : Int)) = ((i + t : Nat) : Int) := by rw [w64 (by omega) (by omega)]; omega
  rw [armadaref13_Encode.l4, if_pos (by omega), e1, if_pos (by omega), if_pos (by omega), w64 (x := 2 * n) (by omega) (by omega), w64 (x := 2 * n + _) (by omega) (by omega), w64 (x := (t : Int) + 1) (by omega) (by omega)]
  rfl
theorem enc_l3 (xs : List Int) (hm : xs.length ≤ 40000) (h6 : xs.length % 6 = 0) (hb : Bits xs) (r : ByteArray) (K : Nat) (d : Nat) : ∀ (i : Nat) (acc : List Int), xs.length - i = 6 * d → i ≤ xs.length → acc.length ≤ i → (∀ k, K ≤ k → armadaref13_Encode.l5 k (acc ++ (sext (xs.drop i)).map S) = some r) →
    ∀ k, K + 8 * d + 1 ≤ k → armadaref13_Encode.l3 k xs acc (i : Int) = some r := by
  induction d with
  | zero =>
    intro i acc hd hi ha H k hk
    obtain ⟨k, rfl⟩ : ∃ m, k = m + 1 := ⟨k - 1, by omega⟩
    have := H k (by omega)
    rw [List.drop_of_length_le (by omega)] at this
    rw [armadaref13_Encode.l3, if_neg (by omega)]
    simpa [sext] using this
  | succ d ih =>
    intro i acc hd hi ha H k hk
    obtain ⟨k, rfl⟩ : ∃ m, k = m + 8 := ⟨k - 8, by omega⟩
    have hg : ∀ t, t < 6 → 0 ≤ rd xs ((i + t : Nat) : Int) ∧ rd xs ((i + t : Nat) : Int) ≤ 1 := fun t ht => by rw [rd_get xs (i + t) (by omega)]; exact hb _ (List.getElem_mem (by omega))
    have g0 := hg 0 (by omega); have g1 := hg 1 (by omega); have g2 := hg 2 (by omega); have g3 := hg 3 (by omega); have g4 := hg 4 (by omega); have g5 := hg 5 (by omega)
    rw [Nat.add_zero] at g0
    have hdr := drop_six xs i (by omega)
    generalize hb0 : rd xs (i : Int) = b0 at *
    generalize hb1 : rd xs ((i + 1 : Nat) : Int) = b1 at *
    generalize hb2 : rd xs ((i + 2 : Nat) : Int) = b2 at *
    generalize hb3 : rd xs ((i + 3 : Nat) : Int) = b3 at *
    generalize hb4 : rd xs ((i + 4 : Nat) : Int) = b4 at *
    generalize hb5 : rd xs ((i + 5 : Nat) : Int) = b5 at *
    rw [show k + 8 = k + 7 + 1 from rfl, armadaref13_Encode.l3, if_pos (by omega)]
    have s0 := l4_step xs acc i 0 0 hm (by omega) (by omega) hb (by omega) (k + 6)
    rw [show i + 0 = i from rfl, hb0] at s0
    have s1 := l4_step xs acc i 1 (2 * 0 + b0) hm (by omega) (by omega) hb (by omega) (k + 5)
    rw [hb1] at s1
    have s2 := l4_step xs acc i 2 (2 * (2 * 0 + b0) + b1) hm (by omega) (by omega) hb (by omega) (k + 4)
    rw [hb2] at s2
    have s3 := l4_step xs acc i 3 (2 * (2 * (2 * 0 + b0) + b1) + b2) hm (by omega) (by omega) hb (by omega) (k + 3)
    rw [hb3] at s3
    have s4 := l4_step xs acc i 4 (2 * (2 * (2 * (2 * 0 + b0) + b1) + b2) + b3) hm (by omega) (by omega) hb (by omega) (k + 2)
    rw [hb4] at s4
    have s5 := l4_step xs acc i 5 (2 * (2 * (2 * (2 * (2 * 0 + b0) + b1) + b2) + b3) + b4) hm (by omega) (by omega) hb (by omega) (k + 1)
    rw [hb5] at s5
    refine (s0.trans (s1.trans (s2.trans (s3.trans (s4.trans s5))))).trans ?_
    have ev : 2 * (2 * (2 * (2 * (2 * (2 * 0 + b0) + b1) + b2) + b3) + b4) + b5 = 32 * b0 + 16 * b1 + 8 * b2 + 4 * b3 + 2 * b4 + b5 := by omega
    rw [ev, armadaref13_Encode.l4, if_neg (by omega), if_pos (by omega), if_pos (by omega), if_pos (by omega), w64 (by omega) (by omega)]
    refine ih (i + 6) _ (by omega) (by omega) (by rw [List.length_append, List.length_singleton]; omega) (fun k hk => ?_) k (by omega)
    have := H k hk
    rw [hdr, sext, List.map_cons] at this
    rw [List.append_assoc]
    exact this
theorem bitsL_Bits (l : List Int) : Bits (bitsL l) := by
  induction l with
  | nil => intro b h; cases h
  | cons c r ih =>
    intro b h
    rw [bitsL] at h
    rcases List.mem_append.1 h with h1 | h1
    · simp only [bitsOf, List.mem_cons, List.not_mem_nil, or_false] at h1
      omega
    · exact ih b h1
def zerosN (n : Nat) : Nat := (6 - 8 * n % 6) % 6
theorem byte_bits (a : Int) (h : 0 ≤ a ∧ a ≤ 255) : 32 * (a / 128 % 2) + 16 * (a / 64 % 2) + 8 * (a / 32 % 2) + 4 * (a / 16 % 2) + 2 * (a / 8 % 2) + a / 4 % 2 = a / 4 ∧ 32 * (a / 2 % 2) + 16 * (a % 2) = a % 4 * 16 ∧ 8 * (a / 128 % 2) + 4 * (a / 64 % 2) + 2 * (a / 32 % 2) + a / 16 % 2 = a / 16 ∧
    32 * (a / 8 % 2) + 16 * (a / 4 % 2) + 8 * (a / 2 % 2) + 4 * (a % 2) = a % 16 * 4 ∧ 2 * (a / 128 % 2) + a / 64 % 2 = a / 64 ∧ 32 * (a / 32 % 2) + 16 * (a / 16 % 2) + 8 * (a / 8 % 2) + 4 * (a / 4 % 2) + 2 * (a / 2 % 2) + a % 2 = a % 64 := by
  have key : ∀ n : Fin 256, 32 * ((n.val : Int) / 128 % 2) + 16 * ((n.val : Int) / 64 % 2) + 8 * ((n.val : Int) / 32 % 2) + 4 * ((n.val : Int) / 16 % 2) + 2 * ((n.val : Int) / 8 % 2) + (n.val : Int) / 4 % 2 = (n.val : Int) / 4 ∧ 32 * ((n.val : Int) / 2 % 2) + 16 * ((n.val : Int) % 2) = (n.val : Int) % 4 * 16 ∧ 8 * ((n.val : Int) / 128 % 2) + 4 * ((n.val : Int) / 64 % 2) + 2 * ((n.val : Int) / 32 % 2) + (n.val : Int) / 16 % 2 = (n.val : Int) / 16 ∧
    32 * ((n.val : Int) / 8 % 2) + 16 * ((n.val : Int) / 4 % 2) + 8 * ((n.val : Int) / 2 % 2) + 4 * ((n.val : Int) % 2) = (n.val : Int) % 16 * 4 ∧ 2 * ((n.val : Int) / 128 % 2) + (n.val : Int) / 64 % 2 = (n.val : Int) / 64 ∧ 32 * ((n.val : Int) / 32 % 2) + 16 * ((n.val : Int) / 16 % 2) + 8 * ((n.val : Int) / 8 % 2) + 4 * ((n.val : Int) / 4 % 2) + 2 * ((n.val : Int) / 2 % 2) + (n.val : Int) % 2 = (n.val : Int) % 64 := by decide +kernel
  obtain ⟨m, rfl⟩ := Int.eq_ofNat_of_zero_le h.1
  exact key ⟨m, by omega⟩
theorem sum_two (x1 x2 x3 x4 x5 x6 p q : Int) (h1 : 32 * x1 + 16 * x2 = p) (h2 : 8 * x3 + 4 * x4 + 2 * x5 + x6 = q) : 32 * x1 + 16 * x2 + 8 * x3 + 4 * x4 + 2 * x5 + x6 = p + q := by omega
theorem sum_four (x1 x2 x3 x4 x5 x6 p q : Int) (h1 : 32 * x1 + 16 * x2 + 8 * x3 + 4 * x4 = p) (h2 : 2 * x5 + x6 = q) : 32 * x1 + 16 * x2 + 8 * x3 + 4 * x4 + 2 * x5 + x6 = p + q := by omega
theorem sum_two0 (x1 x2 p : Int) (h1 : 32 * x1 + 16 * x2 = p) : 32 * x1 + 16 * x2 + 8 * 0 + 4 * 0 + 2 * 0 + 0 = p := by omega
theorem sum_four0 (x1 x2 x3 x4 p : Int) (h1 : 32 * x1 + 16 * x2 + 8 * x3 + 4 * x4 = p) : 32 * x1 + 16 * x2 + 8 * x3 + 4 * x4 + 2 * 0 + 0 = p := by omega
theorem sext_enc (l : List Int) (h : InB l) : (sext (bitsL l ++ List.replicate (zerosN l.length) 0)).map S = encS l := by
  fun_induction encS l with
  | case1 a b c r ih =>
    obtain ⟨a1, a2, a3, a4, a5, a6⟩ := byte_bits a (h a (by simp))
    obtain ⟨b1, b2, b3, b4, b5, b6⟩ := byte_bits b (h b (by simp))
    obtain ⟨c1, c2, c3, c4, c5, c6⟩ := byte_bits c (h c (by simp))
    have hz : zerosN (a :: b :: c :: r).length = zerosN r.length := by unfold zerosN; simp only [List.length_cons]; omega
    rw [hz, ← ih (fun y hy => h y (by simp [hy]))]
    simp only [bitsL, bitsOf, List.cons_append, List.nil_append, sext, List.map_cons]
    rw [a1, sum_two _ _ _ _ _ _ _ _ a2 b3, sum_four _ _ _ _ _ _ _ _ b4 c5, c6]
  | case2 a b =>
    obtain ⟨a1, a2, a3, a4, a5, a6⟩ := byte_bits a (h a (by simp))
    obtain ⟨b1, b2, b3, b4, b5, b6⟩ := byte_bits b (h b (by simp))
    rw [show zerosN [a, b].length = 2 by simp [zerosN]]
    simp only [bitsL, bitsOf, List.cons_append, List.nil_append, List.replicate, sext, List.map_cons, List.map_nil]
    rw [a1, sum_two _ _ _ _ _ _ _ _ a2 b3, sum_four0 _ _ _ _ _ b4]
  | case3 a =>
    obtain ⟨a1, a2, a3, a4, a5, a6⟩ := byte_bits a (h a (by simp))
    rw [show zerosN [a].length = 4 by simp [zerosN]]
    simp only [bitsL, bitsOf, List.cons_append, List.nil_append, List.replicate, sext, List.map_cons, List.map_nil]
    rw [a1, sum_two0 _ _ _ a2]
  | case4 => rfl
theorem refEncode_spec (s : ByteArray) (hs : s.size ≤ 4000) (k : Nat) (hk : 200000 ≤ k) : ∃ e, armadaref13_Encode.f k s = some e ∧ bs e = encP (bs s) := by
  refine ⟨strOfNums (encP (bs s)), ?_, bs_strOfNums _ (encP_InB _ (bs_range s))⟩
  have hlen := bitsL_length (bs s)
  rw [bs_length] at hlen
  have hz5 : zerosN s.size ≤ 5 := by unfold zerosN; omega
  have hz6 : (8 * s.size + zerosN s.size) % 6 = 0 := by unfold zerosN; omega
  have hE := encP_length (bs s)
  rw [bs_length] at hE
  have hEl : (encS (bs s)).length + padsN (bs s) = 4 * ((s.size + 2) / 3) := by
    have := hE
    unfold encP at this
    rwa [List.length_append, List.length_replicate] at this
  have h5 : ∀ k, 100 ≤ k → armadaref13_Encode.l5 k (encS (bs s)) = some (strOfNums (encP (bs s))) := fun k hk =>
    enc_l5 (encP (bs s)) (padsN (bs s)) (encS (bs s)) (by omega) (by omega) (by have := padsN_le (bs s); omega) rfl k (by have := padsN_le (bs s); omega)
  have h3 : ∀ k, 100000 ≤ k → armadaref13_Encode.l3 k (bitsL (bs s) ++ List.replicate (zerosN s.size) 0) [] 0 = some (strOfNums (encP (bs s))) := fun k hk => by
    have hbits : Bits (bitsL (bs s) ++ List.replicate (zerosN s.size) 0) := by
      intro b hb
      rcases List.mem_append.1 hb with h1 | h1
      · exact bitsL_Bits _ b h1
      · obtain ⟨_, rfl⟩ := List.mem_replicate.1 h1; omega
    have hl2 : (bitsL (bs s) ++ List.replicate (zerosN s.size) 0).length = 8 * s.size + zerosN s.size := by rw [List.length_append, List.length_replicate, hlen]
    refine enc_l3 _ (by omega) (by omega) hbits _ 100 ((8 * s.size + zerosN s.size) / 6) 0 [] (by omega) (by omega) (by simp) (fun k hk => ?_) k (by omega)
    rw [List.nil_append, List.drop_zero]
    have := sext_enc (bs s) (bs_range s)
    rw [bs_length] at this
    rw [this]
    exact h5 k hk
  have h2 : ∀ k, 100010 ≤ k → armadaref13_Encode.l2 k (bitsL (bs s)) = some (strOfNums (encP (bs s))) := fun k hk =>
    enc_l2 _ 100000 (zerosN s.size) (bitsL (bs s)) (by omega) (by omega) hz5 h3 k (by omega)
  unfold armadaref13_Encode.f
  exact enc_l0 s hs _ 100010 h2 s.size 0 [] (by omega) (by omega) rfl (by rw [List.drop_zero, List.nil_append]) k (by omega)
end Go.Proofs.YtjmomhicemjilaaDoor.Pl
