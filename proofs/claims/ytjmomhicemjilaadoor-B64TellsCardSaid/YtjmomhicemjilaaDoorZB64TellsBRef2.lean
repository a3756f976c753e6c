/- The document's Decode and Size: the same as the program's. -/
import Derived.Test.YtjmomhicemjilaaDoorZB64TellsBRef
import Derived.Test.YtjmomhicemjilaaDoorZB64TellsM0
namespace Go.Proofs.YtjmomhicemjilaaDoor.Pl
set_option linter.unusedSimpArgs false
set_option linter.unusedVariables false
open Go.RowKit Go.Proofs.YtjmomhicemjilaaDoor.P Go.Proofs.YtjmomhicemjilaaDoorW.PrintWords Go.Proofs.YtjmomhicemjilaaDoorW.PrintLast Go.Proofs.YtjmomhicemjilaaDoorW.PrintMore
/-- The first place of a sign, from a place on; -1: there is none. -/
def numFrom (c : Int) : Nat → Nat → Int
  | 0, _ => -1
  | d + 1, i => if bt signsB (i : Int) = c then (i : Int) else numFrom c d (i + 1)
theorem number_l0 (c : Int) (d : Nat) : ∀ (k i : Nat), 64 - i = d → i ≤ 64 → d < k → armadaref13_number.l0 k c (i : Int) = some (numFrom c d i) := by
  induction d with
  | zero =>
    intro k i hd hi hk
    obtain ⟨k, rfl⟩ : ∃ m, k = m + 1 := ⟨k - 1, by omega⟩
    rw [armadaref13_number.l0, if_neg (by omega)]
    rfl
  | succ d ih =>
    intro k i hd hi hk
    obtain ⟨k, rfl⟩ : ∃ m, k = m + 1 := ⟨k - 1, by omega⟩
    rw [armadaref13_number.l0, if_pos (by omega), if_pos (by omega), numFrom]
    by_cases h : bt signsB (i : Int) = c
    · rw [if_pos h]
      exact if_pos h
    · rw [if_neg h, w64 (by omega) (by omega)]
      exact (if_neg h).trans (ih k (i + 1) (by omega) (by omega) (by omega))
theorem numFrom_dK (c : Int) (h0 : 0 ≤ c) (h1 : c ≤ 255) : numFrom c 64 0 = dK c := by
  have : ∀ n : Fin 256, numFrom (n.val : Int) 64 0 = dK (n.val : Int) := by decide +kernel
  obtain ⟨m, rfl⟩ := Int.eq_ofNat_of_zero_le h0
  exact this ⟨m, by omega⟩
theorem refNumber_spec (c : Int) (h0 : 0 ≤ c) (h1 : c ≤ 255) (k : Nat) (hk : 65 ≤ k) : armadaref13_number.f k c = some (dK c) := by
  unfold armadaref13_number.f
  rw [← numFrom_dK c h0 h1]
  exact number_l0 c 64 k 0 rfl (by omega) (by omega)
/-- What the document's Decode gathers: to the first pad. -/
def refGo : List Int → Int → Int → List Int → Option (List Int)
  | [], _, _, out => some out
  | c :: r, n, b, out => if c = 61 then some out else if dK c < 0 then none else if 8 ≤ b + 6 then refGo r ((n * 64 + dK c) % 65536) (b + 6 - 8) (out ++ [(n * 64 + dK c) % 65536 / 2 ^ (b + 6 - 8).toNat % 256]) else refGo r ((n * 64 + dK c) % 65536) (b + 6) out
theorem refGo_dec (l : List Int) : ∀ (n m b : Int) (out : List Int), 0 ≤ m → m < 4294967296 → 0 ≤ n → n < 65536 → 0 ≤ b → b ≤ 7 → m % 1024 = n % 1024 → (∀ c ∈ l, c ≠ 61) → refGo l n b out = decGo l m b out := by
  induction l with
  | nil => intro n m b out _ _ _ _ _ _ _ _; rw [refGo, decGo]
  | cons c l ih =>
    intro n m b out hm0 hm1 hn0 hn1 hb0 hb1 he hl
    have hk := dK_range c
    rw [refGo, decGo, if_neg (hl c (by simp))]
    by_cases h : dK c < 0
    · rw [if_pos h, if_pos h]
    · rw [if_neg h, if_neg h]
      have hd := dN_range m (dK c) (by omega) (by omega)
      have e1 : dN m (dK c) % 65536 = (n * 64 + dK c) % 65536 := by unfold dN; omega
      by_cases h8 : 8 ≤ b + 6
      · rw [if_pos h8, if_pos h8]
        have ev : (n * 64 + dK c) % 65536 / 2 ^ (b + 6 - 8).toNat % 256 = dN m (dK c) / 2 ^ (b + 6 - 8).toNat % 256 := by
          generalize dN m (dK c) = x at *
          rw [← e1]
          have hb : b = 2 ∨ b = 3 ∨ b = 4 ∨ b = 5 ∨ b = 6 ∨ b = 7 := by omega
          rcases hb with rfl | rfl | rfl | rfl | rfl | rfl
          · show x % 65536 / 1 % 256 = x / 1 % 256; omega
          · show x % 65536 / 2 % 256 = x / 2 % 256; omega
          · show x % 65536 / 4 % 256 = x / 4 % 256; omega
          · show x % 65536 / 8 % 256 = x / 8 % 256; omega
          · show x % 65536 / 16 % 256 = x / 16 % 256; omega
          · show x % 65536 / 32 % 256 = x / 32 % 256; omega
        rw [ev]
        exact ih _ _ _ _ hd.1 hd.2 (by omega) (by omega) (by omega) (by omega) (by omega) (fun x hx => hl x (by simp [hx]))
      · rw [if_neg h8, if_neg h8]
        exact ih _ _ _ _ hd.1 hd.2 (by omega) (by omega) (by omega) (by omega) (by omega) (fun x hx => hl x (by simp [hx]))
theorem refGo_pads (l r : List Int) : ∀ (n b : Int) (out : List Int), (∀ c ∈ l, c ≠ 61) → refGo (l ++ 61 :: r) n b out = refGo l n b out := by
  induction l with
  | nil =>
    intro n b out _
    have h : refGo (61 :: r) n b out = some out := by rw [refGo, if_pos rfl]
    rw [List.nil_append, h, refGo]
  | cons c l ih =>
    intro n b out hl
    rw [List.cons_append, refGo, refGo]
    have h := ih
    split
    · rfl
    · split
      · rfl
      · split
        · exact ih _ _ _ (fun x hx => hl x (by simp [hx]))
        · exact ih _ _ _ (fun x hx => hl x (by simp [hx]))
theorem refGo_enc (l : List Int) (h : InB l) : refGo (encP l) 0 0 [] = some l := by
  have hs : ∀ c ∈ encS l, c ≠ 61 := fun c hc => (encS_signs l h c hc).2
  have e : refGo (encP l) 0 0 [] = refGo (encS l) 0 0 [] := by
    unfold encP
    cases padsN l with
    | zero => rw [List.replicate_zero, List.append_nil]
    | succ m => rw [List.replicate_succ]; exact refGo_pads _ _ _ _ _ hs
  rw [e, refGo_dec (encS l) 0 0 0 [] (by omega) (by omega) (by omega) (by omega) (by omega) (by omega) rfl hs, dec_encS l h 0 [] (by omega)]
  rfl
theorem refGo_InB (l : List Int) : ∀ (n b : Int) (out r : List Int), InB out → refGo l n b out = some r → InB r := by
  induction l with
  | nil => intro n b out r ho h; rw [refGo] at h; rw [← Option.some.inj h]; exact ho
  | cons c l ih =>
    intro n b out r ho h
    rw [refGo] at h
    split at h
    · rw [← Option.some.inj h]; exact ho
    · split at h
      · cases h
      · split at h
        · refine ih _ _ _ _ ?_ h
          intro x hx
          rcases List.mem_append.1 hx with h1 | h1
          · exact ho x h1
          · obtain rfl := List.mem_singleton.1 h1
            omega
        · exact ih _ _ _ _ ho h
theorem refGo_len (l : List Int) : ∀ (n b : Int) (out r : List Int), refGo l n b out = some r → r.length ≤ out.length + l.length := by
  induction l with
  | nil => intro n b out r h; rw [refGo] at h; rw [← Option.some.inj h]; simp
  | cons c l ih =>
    intro n b out r h
    rw [refGo] at h
    split at h
    · rw [← Option.some.inj h]; omega
    · split at h
      · cases h
      · split at h
        · have := ih _ _ _ _ h; simp only [List.length_append, List.length_cons, List.length_nil] at this ⊢; omega
        · have := ih _ _ _ _ h; simp only [List.length_cons]; omega
theorem and_16 (x : Int) (h0 : 0 ≤ x) (h1 : x < 4294967296) : Go.bits .and .i64 x 65535 = x % 65536 :=
  bits_mask .i64 63 (by decide) (fun n h0 h1 => by rw [IntKind.wrap_i64]; omega) 16 (by decide) x h0 (by omega)
theorem and_8 (x : Int) (h0 : 0 ≤ x) (h1 : x < 4294967296) : Go.bits .and .i64 x 255 = x % 256 :=
  bits_mask .i64 63 (by decide) (fun n h0 h1 => by rw [IntKind.wrap_i64]; omega) 8 (by decide) x h0 (by omega)
/-- What the document's Decode comes to, of what it gathers. -/
def refEnd (t : ByteArray) (k : Nat) : Option (List Int) → Option (ByteArray × Bool)
  | none => some (⟨#[]⟩, false)
  | some out => (armadaref13_Encode.f k (strOfNums out)).bind fun e => if e.toList = t.toList then some (strOfNums out, true) else some (⟨#[]⟩, false)
theorem refDec_l0 (t : ByteArray) (ht : t.size ≤ 4000) (r : ByteArray × Bool) (K : Nat) (res : Option (List Int)) (H : ∀ k, K ≤ k → refEnd t k res = some r) (d : Nat) : ∀ (i : Nat) (n b : Int) (out : List Int), t.size - i = d → i ≤ t.size → 0 ≤ n → n < 65536 → 0 ≤ b → b ≤ 7 → out.length ≤ i →
    refGo ((bs t).drop i) n b out = res → ∀ k, K + 100 + 2 * d ≤ k → armadaref13_Decode.l0 k t out n b (i : Int) = some r := by
  have fin : ∀ (n b : Int) (i : Int) (out : List Int), some out = res → ∀ k, K + 1 ≤ k → armadaref13_Decode.j1 k t out n b i false = some r := by
    intro n b i out he k hk
    obtain ⟨k, rfl⟩ : ∃ m, k = m + 1 := ⟨k - 1, by omega⟩
    rw [armadaref13_Decode.j1, if_neg (by decide)]
    have := H k (by omega)
    rw [← he] at this
    exact this
  induction d with
  | zero =>
    intro i n b out hd hi hn0 hn1 hb0 hb1 ho hg k hk
    obtain ⟨k, rfl⟩ : ∃ m, k = m + 1 := ⟨k - 1, by omega⟩
    rw [List.drop_of_length_le (by rw [bs_length]; omega), refGo] at hg
    rw [armadaref13_Decode.l0, if_neg (by omega)]
    exact fin n b _ out hg k (by omega)
  | succ d ih =>
    intro i n b out hd hi hn0 hn1 hb0 hb1 ho hg k hk
    obtain ⟨k, rfl⟩ : ∃ m, k = m + 2 := ⟨k - 2, by omega⟩
    have hlt : i < t.size := by omega
    have hbr := bt_range t (i : Int)
    have hkr := dK_range (bt t (i : Int))
    rw [bs_drop t i hlt, refGo] at hg
    rw [show k + 2 = k + 1 + 1 from rfl, armadaref13_Decode.l0, if_pos (by omega), if_pos (by omega)]
    by_cases h61 : bt t (i : Int) = 61
    · rw [if_pos h61] at hg
      rw [h61, show ((61 : Int) != 61) = false from rfl]
      exact fin n b _ out hg (k + 1) (by omega)
    · rw [if_neg h61] at hg
      rw [show (bt t (i : Int) != 61) = true by simpa using h61, armadaref13_Decode.j1, if_pos rfl, if_pos (by omega), if_pos (by omega), refNumber_spec _ hbr.1 hbr.2 k (by omega), Option.bind_some]
      by_cases hneg : dK (bt t (i : Int)) < 0
      · rw [if_pos hneg] at hg
        rw [if_pos hneg]
        have := H K (Nat.le_refl _)
        rw [← hg] at this
        exact this
      · rw [if_neg hneg] at hg
        rw [if_neg hneg]
        generalize dK (bt t (i : Int)) = v at *
        have e6 : wrap64 (b + 6) = b + 6 := w64 (by omega) (by omega)
        have en : Go.bits .and .i64 (wrap64 (wrap64 (n * 64) + v)) 65535 = (n * 64 + v) % 65536 := by
          rw [w64 (x := n * 64) (by omega) (by omega), w64 (x := n * 64 + v) (by omega) (by omega)]
          exact and_16 _ (by omega) (by omega)
        have ei : wrap64 ((i : Int) + 1) = ((i + 1 : Nat) : Int) := by rw [w64 (by omega) (by omega)]; omega
        have p2 : out.length < 140737488355328 := by clear e6 en ei; omega
        rw [e6, en, ei]
        clear e6 en ei
        by_cases h8 : 8 ≤ b + 6
        · rw [if_pos h8] at hg
          have p1 : 0 ≤ b + 6 - 8 := by omega
          have p3 : b + 6 - 8 ≤ 7 := by omega
          have p4 : 0 ≤ (n * 64 + v) % 65536 ∧ (n * 64 + v) % 65536 < 65536 := by omega
          have p5 : (out ++ [(n * 64 + v) % 65536 / 2 ^ (b + 6 - 8).toNat % 256]).length ≤ i + 1 := by rw [List.length_append, List.length_singleton]; omega
          have p6 : t.size - (i + 1) = d := by omega
          have p7 : K + 100 + 2 * d ≤ k := by omega
          have e8 : wrap64 (b + 6 - 8) = b + 6 - 8 := w64 (by omega) (by omega)
          have es : shr .i64 ((n * 64 + v) % 65536) (b + 6 - 8) = (n * 64 + v) % 65536 / 2 ^ (b + 6 - 8).toNat := by
            unfold shr
            rw [show IntKind.i64.bits = 64 from rfl, Nat.min_eq_left (by omega)]
          have hq : 0 ≤ (n * 64 + v) % 65536 / 2 ^ (b + 6 - 8).toNat ∧ (n * 64 + v) % 65536 / 2 ^ (b + 6 - 8).toNat < 4294967296 := by
            have hp : (0 : Int) < 2 ^ (b + 6 - 8).toNat := Int.pow_pos (by decide)
            have hx : 0 ≤ (n * 64 + v) % 65536 := by omega
            exact ⟨Int.ediv_nonneg hx (Int.le_of_lt hp), Int.lt_of_le_of_lt (Int.ediv_le_self _ hx) (by omega)⟩
          rw [if_pos h8, e8, if_pos p1, if_pos p2, es, and_8 _ hq.1 hq.2, Int.emod_emod]
          exact ih (i + 1) _ _ _ p6 hlt p4.1 p4.2 p1 p3 p5 hg k p7
        · rw [if_neg h8] at hg
          rw [if_neg h8]
          exact ih (i + 1) _ _ _ (by omega) (by omega) (by omega) (by omega) (by omega) (by omega) (by omega) hg (k) (by omega)
theorem refDecode_spec (t : ByteArray) (ht : t.size ≤ 4000) (k : Nat) (hk : 300000 ≤ k) : ∃ r, armadaref13_Decode.f k t = some r ∧ DecIs t r := by
  unfold armadaref13_Decode.f
  cases hg : refGo (bs t) 0 0 [] with
  | none =>
    refine ⟨(⟨#[]⟩, false), ?_, Or.inr ⟨?_, rfl⟩⟩
    · exact refDec_l0 t ht _ 0 none (fun k _ => rfl) t.size 0 0 0 [] (by omega) (by omega) (by omega) (by omega) (by omega) (by omega) (by simp) (by rw [List.drop_zero]; exact hg) k (by omega)
    · rintro ⟨l, hl, e⟩
      rw [e, refGo_enc l hl] at hg
      cases hg
  | some out =>
    have hin := refGo_InB _ _ _ _ _ (by intro x hx; cases hx) hg
    have hlen := refGo_len _ _ _ _ _ hg
    rw [bs_length] at hlen
    have hso : (strOfNums out).size ≤ 4000 := by rw [strOfNums_size]; simp at hlen; omega
    obtain ⟨en, he1, he2⟩ := refEncode_spec (strOfNums out) hso 200000 (by omega)
    rw [bs_strOfNums out hin] at he2
    have run : ∀ r, (if en.toList = t.toList then some (strOfNums out, true) else some (⟨#[]⟩, false)) = some r → armadaref13_Decode.l0 k t [] 0 0 0 = some r := by
      intro r hr
      refine refDec_l0 t ht r 200000 (some out) (fun k hk => ?_) t.size 0 0 0 [] (by omega) (by omega) (by omega) (by omega) (by omega) (by omega) (by simp) (by rw [List.drop_zero]; exact hg) k (by omega)
      obtain ⟨en2, h1, h2⟩ := refEncode_spec (strOfNums out) hso k hk
      rw [bs_strOfNums out hin] at h2
      have hen : en2 = en := bs_inj (h2.trans he2.symm)
      subst hen
      simp only [refEnd, h1, Option.bind_some]
      exact hr
    by_cases hq : en.toList = t.toList
    · refine ⟨_, run _ (by rw [if_pos hq]), Or.inl ⟨out, hin, ?_, rfl⟩⟩
      rw [ByteArray.toList_eq, ByteArray.toList_eq] at hq
      rw [← he2]
      unfold bs
      rw [hq]
    · refine ⟨_, run _ (by rw [if_neg hq]), Or.inr ⟨?_, rfl⟩⟩
      rintro ⟨l, hl, e⟩
      rw [e, refGo_enc l hl] at hg
      have hlo : l = out := Option.some.inj hg
      subst hlo
      exact hq (by rw [bs_inj (he2.trans e.symm)])
end Go.Proofs.YtjmomhicemjilaaDoor.Pl
