/- What the program's Encode and Decode come to, on lists of numbers. -/
import Derived.Test.YtjmomhicemjilaaDoorZB64TellsBPlain
namespace Go.Proofs.YtjmomhicemjilaaDoor.Pl
set_option linter.unusedSimpArgs false
set_option linter.unusedVariables false
open Go.RowKit Go.Proofs.YtjmomhicemjilaaDoor.P Go.Proofs.YtjmomhicemjilaaDoorW.PrintWords Go.Proofs.YtjmomhicemjilaaDoorW.PrintLast Go.Proofs.YtjmomhicemjilaaDoorW.PrintMore
theorem bs_extract (s : ByteArray) (a b : Nat) : bs (s.extract a b) = ((bs s).take b).drop a := by
  unfold bs
  rw [ByteArray.data_extract, Array.toList_extract, List.extract_eq_take_drop, List.map_take, List.map_drop, List.drop_take]
theorem sgn0 (n : Int) : sgn n 0 = S (n / 262144 % 64) := rfl
theorem sgn1 (n : Int) : sgn n 1 = S (n / 4096 % 64) := rfl
theorem sgn2 (n : Int) : sgn n 2 = S (n / 64 % 64) := rfl
theorem sgn3 (n : Int) : sgn n 3 = S (n / 1 % 64) := rfl
theorem bs_one (x : ByteArray) (h : x.size = 1) : bs x = [bt x 0] := by
  have := bs_drop x 0 (by omega)
  rw [List.drop_zero, List.drop_of_length_le (by rw [bs_length]; omega)] at this
  exact this
theorem bs_two (x : ByteArray) (h : x.size = 2) : bs x = [bt x 0, bt x 1] := by
  have := bs_drop x 0 (by omega)
  rw [List.drop_zero, bs_drop x (0 + 1) (by omega), List.drop_of_length_le (by rw [bs_length]; omega)] at this
  exact this
theorem bs_three (x : ByteArray) (h : x.size = 3) : bs x = [bt x 0, bt x 1, bt x 2] := by
  have := bs_drop x 0 (by omega)
  rw [List.drop_zero, bs_drop x (0 + 1) (by omega), bs_drop x (0 + 1 + 1) (by omega), List.drop_of_length_le (by rw [bs_length]; omega)] at this
  exact this
theorem grpL_enc (x : ByteArray) (h1 : 1 ≤ x.size) (h3 : x.size ≤ 3) : grpL x = encP (bs x) := by
  have r0 := bt_range x 0; have r1 := bt_range x 1; have r2 := bt_range x 2
  unfold grpL
  by_cases c3 : x.size = 3
  · rw [if_pos c3, bs_three x c3, sgn0, sgn1, sgn2, sgn3]
    show _ = [S (bt x 0 / 4), S (bt x 0 % 4 * 16 + bt x 1 / 16), S (bt x 1 % 16 * 4 + bt x 2 / 64), S (bt x 2 % 64)]
    rw [show (bt x 2 + bt x 1 * 256 + bt x 0 * 65536) / 262144 % 64 = bt x 0 / 4 by omega, show (bt x 2 + bt x 1 * 256 + bt x 0 * 65536) / 4096 % 64 = bt x 0 % 4 * 16 + bt x 1 / 16 by omega, show (bt x 2 + bt x 1 * 256) / 64 % 64 = bt x 1 % 16 * 4 + bt x 2 / 64 by omega, show bt x 2 / 1 % 64 = bt x 2 % 64 by omega]
  · rw [if_neg c3]
    by_cases c2 : x.size = 2
    · rw [if_pos c2, bs_two x c2, sgn0, sgn1, sgn2]
      show _ = [S (bt x 0 / 4), S (bt x 0 % 4 * 16 + bt x 1 / 16), S (bt x 1 % 16 * 4), 61]
      rw [show (bt x 1 * 256 + bt x 0 * 65536) / 262144 % 64 = bt x 0 / 4 by omega, show (bt x 1 * 256 + bt x 0 * 65536) / 4096 % 64 = bt x 0 % 4 * 16 + bt x 1 / 16 by omega, show bt x 1 * 256 / 64 % 64 = bt x 1 % 16 * 4 by omega]
    · rw [if_neg c2, bs_one x (by omega), sgn0, sgn1]
      show _ = [S (bt x 0 / 4), S (bt x 0 % 4 * 16), 61, 61]
      rw [show bt x 0 * 65536 / 262144 % 64 = bt x 0 / 4 by omega, show bt x 0 * 65536 / 4096 % 64 = bt x 0 % 4 * 16 by omega]
theorem bs_grpB (x : ByteArray) (h1 : 1 ≤ x.size) (h3 : x.size ≤ 3) : bs (grpB x) = encP (bs x) := by
  unfold grpB
  rw [grpL_enc x h1 h3]
  exact bs_strOfNums _ (encP_InB _ (bs_range x))
theorem bs_encTo (s : ByteArray) (i : Nat) (hi : i ≤ encN s.size) : bs (encTo s i) = encP ((bs s).take (3 * i)) := by
  induction i with
  | zero => rfl
  | succ i ih =>
    have hlt : 3 * i < s.size := by unfold encN at hi; omega
    have hsz : (s.extract (3 * i) (3 * i + 3)).size = min 3 (s.size - 3 * i) := by rw [ByteArray.size_extract]; omega
    rw [encTo, bs_append, ih (by omega), bs_grpB _ (by rw [hsz]; omega) (by rw [hsz]; omega), bs_extract, ← encP_append _ _ (by rw [List.length_take, bs_length]; omega)]
    congr 1
    have : (bs s).take (3 * i) = ((bs s).take (3 * i + 3)).take (3 * i) := by rw [List.take_take]; congr 1; omega
    rw [this, List.take_append_drop, Nat.mul_add]
theorem Encode_spec (s : ByteArray) (h : s.size ≤ 70000000000000) : ∃ e, b64_Encode.f s = some e ∧ bs e = encP (bs s) ∧ e.size = 4 * ((s.size + 2) / 3) := by
  refine ⟨encTo s (encN s.size), by unfold b64_Encode.f; rw [if_pos h], ?_, encTo_size _ _⟩
  rw [bs_encTo s _ (Nat.le_refl _), List.take_of_length_le (by rw [bs_length]; unfold encN; omega)]
theorem bs_toArray (l : List UInt8) : bs (⟨l.toArray⟩ : ByteArray) = l.map (fun c => (c.toNat : Int)) := by simp [bs]
theorem trimR (l : List UInt8) (a : List Int) (p : Nat) (ha : ∀ c ∈ a, c ≠ 61) (h : l.map (fun c => (c.toNat : Int)) = a ++ List.replicate p 61) : (Lib.trimRightB l 61).map (fun c => (c.toNat : Int)) = a := by
  have h1 : ∃ l1 l2, l = l1 ++ l2 ∧ l1.map (fun c => (c.toNat : Int)) = a ∧ l2.map (fun c => (c.toNat : Int)) = List.replicate p 61 := by
    refine ⟨l.take a.length, l.drop a.length, (List.take_append_drop _ _).symm, ?_, ?_⟩
    · rw [List.map_take, h, List.take_left]
    · rw [List.map_drop, h, List.drop_left]
  obtain ⟨l1, l2, rfl, h2, h3⟩ := h1
  have h4 : l2 = List.replicate p 61 := by
    have hl : l2.length = p := by have := congrArg List.length h3; simpa using this
    rw [List.eq_replicate_iff]
    refine ⟨hl, fun b hb => ?_⟩
    have : ((b.toNat : Nat) : Int) ∈ List.replicate p (61 : Int) := by rw [← h3]; exact List.mem_map_of_mem hb
    have := (List.mem_replicate.1 this).2
    exact UInt8.toNat_inj.1 (by show b.toNat = 61; omega)
  subst h4
  unfold Lib.trimRightB
  rw [List.reverse_append, List.reverse_replicate]
  have h5 : ∀ (p : Nat) (r : List UInt8), (List.replicate p (61 : UInt8) ++ r).dropWhile (fun x => x == 61) = r.dropWhile (fun x => x == 61) := by
    intro p r
    induction p with
    | zero => rfl
    | succ p ih => rw [List.replicate_succ, List.cons_append, List.dropWhile_cons, if_pos (by rfl), ih]
  rw [h5]
  have h6 : l1.reverse.dropWhile (fun x => x == 61) = l1.reverse := by
    cases hr : l1.reverse with
    | nil => rfl
    | cons x r =>
      rw [List.dropWhile_cons, if_neg]
      intro hx
      have hx' : x = 61 := by simpa using hx
      have hm : x ∈ l1 := by rw [← List.mem_reverse, hr]; simp
      have : ((x.toNat : Nat) : Int) ∈ a := by rw [← h2]; exact List.mem_map_of_mem hm
      exact ha _ this (by rw [hx']; rfl)
  rw [h6, List.reverse_reverse, h2]
theorem bs_trimB (t : ByteArray) (l : List Int) (hl : InB l) (h : bs t = encP l) : bs (trimB t) = encS l := by
  unfold trimB
  rw [bs_toArray]
  exact trimR _ _ (padsN l) (fun c hc => (encS_signs l hl c hc).2) h
theorem decGo_InB (l : List Int) : ∀ (n b : Int) (out r : List Int), InB out → decGo l n b out = some r → InB r := by
  induction l with
  | nil => intro n b out r ho h; rw [decGo] at h; rw [← Option.some.inj h]; exact ho
  | cons c l ih =>
    intro n b out r ho h
    rw [decGo] at h
    split at h
    · cases h
    · split at h
      · refine ih _ _ _ _ ?_ h
        intro x hx
        rcases List.mem_append.1 hx with h1 | h1
        · exact ho x h1
        · obtain rfl := List.mem_singleton.1 h1
          omega
      · exact ih _ _ _ _ ho h
theorem decGo_len (l : List Int) : ∀ (n b : Int) (out r : List Int), decGo l n b out = some r → r.length ≤ out.length + l.length := by
  induction l with
  | nil => intro n b out r h; rw [decGo] at h; rw [← Option.some.inj h]; simp
  | cons c l ih =>
    intro n b out r h
    rw [decGo] at h
    split at h
    · cases h
    · split at h
      · have := ih _ _ _ _ h; simp only [List.length_append, List.length_cons, List.length_nil] at this ⊢; omega
      · have := ih _ _ _ _ h; simp only [List.length_cons]; omega
theorem strOfNums_size (l : List Int) : (strOfNums l).size = l.length := by simp [strOfNums, ByteArray.size]
/-- What Decode comes to: the bytes whose signs these are, if there are any. -/
def DecIs (t : ByteArray) (r : ByteArray × Bool) : Prop := (∃ l, InB l ∧ bs t = encP l ∧ r = (strOfNums l, true)) ∨ ((¬ ∃ l, InB l ∧ bs t = encP l) ∧ r = (⟨#[]⟩, false))
theorem DecIs.uniq {t : ByteArray} {r q : ByteArray × Bool} (h : DecIs t r) (k : DecIs t q) : r = q := by
  rcases h with ⟨l, hl, e, rfl⟩ | ⟨h, rfl⟩
  · rcases k with ⟨m, hm, e', rfl⟩ | ⟨k, _⟩
    · rw [encP_inj hl hm (e.symm.trans e')]
    · exact absurd ⟨l, hl, e⟩ k
  · rcases k with ⟨m, hm, e', _⟩ | ⟨_, rfl⟩
    · exact absurd ⟨m, hm, e'⟩ h
    · rfl
theorem Decode_spec (t : ByteArray) (h : t.size ≤ 70000000000000) : ∃ r, b64_Decode.f t = some r ∧ DecIs t r := by
  unfold b64_Decode.f
  rw [if_pos h]
  have hz := trimB_size t
  cases hd : decGo (bs (trimB t)) 0 0 [] with
  | none =>
    refine ⟨_, rfl, Or.inr ⟨?_, rfl⟩⟩
    rintro ⟨l, hl, e⟩
    rw [bs_trimB t l hl e, dec_encS l hl 0 [] (by omega)] at hd
    cases hd
  | some out =>
    have hin := decGo_InB _ _ _ _ _ (by intro x hx; cases hx) hd
    have hlen := decGo_len _ _ _ _ _ hd
    rw [bs_length] at hlen
    obtain ⟨en, he1, he2, _⟩ := Encode_spec (strOfNums out) (by rw [strOfNums_size]; simp at hlen; omega)
    rw [bs_strOfNums out hin] at he2
    simp only [he1, Option.bind_some]
    by_cases hq : (en.toList == t.toList) = true
    · refine ⟨_, by rw [if_pos hq], Or.inl ⟨out, hin, ?_, rfl⟩⟩
      have : en.toList = t.toList := by simpa using hq
      rw [ByteArray.toList_eq, ByteArray.toList_eq] at this
      rw [← he2]
      unfold bs
      rw [this]
    · refine ⟨_, by rw [if_neg hq], Or.inr ⟨?_, rfl⟩⟩
      rintro ⟨l, hl, e⟩
      rw [bs_trimB t l hl e, dec_encS l hl 0 [] (by omega)] at hd
      have hlo : l = out := by simpa using Option.some.inj hd
      subst hlo
      have : en = t := bs_inj (he2.trans e.symm)
      rw [this] at hq
      simp at hq
end Go.Proofs.YtjmomhicemjilaaDoor.Pl
