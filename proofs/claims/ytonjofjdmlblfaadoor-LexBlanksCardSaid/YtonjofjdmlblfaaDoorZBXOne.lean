/- lex: One, walked by hand. -/
import Derived.Test.YtonjofjdmlblfaaDoorZBXTake
namespace Go.Proofs.YtonjofjdmlblfaaDoor.P
open Go.RowKit Go.Proofs.YtonjofjdmlblfaaDoorW.PrintWords Go.Proofs.YtonjofjdmlblfaaDoorW.PrintLast Go.Proofs.YtonjofjdmlblfaaDoorW.PrintMore
attribute [local go_sem] max2_int min2_int max_two min_two max_three min_three max_four min_four
set_option linter.unusedVariables false
set_option linter.unusedSimpArgs false
def sepC (c : Int) : Bool := c == 40 || c == 41 || c == 91 || c == 93 || c == 44
def blC (c : Int) : Bool := c == 32 || c == 9
def oddC (c : Int) : Bool := (decide (c < 32) && c != 9) || decide (126 < c)
def isNote (s : ByteArray) (i : Nat) : Bool := decide (i + 1 < s.size) && (bt s (i : Int) == 47 && bt s ((i + 1 : Nat) : Int) == 47)
def next (s : ByteArray) (i : Nat) (ws : List S47) (f : Int) : List S47 × Int :=
  if sepC (bt s (i : Int)) = true then (cutW s ws f i ++ [⟨s.extract i (i + 1), (i : Int)⟩], -1)
  else if blC (bt s (i : Int)) = true then (cutW s ws f i, -1) else (ws, if f < 0 then (i : Int) else f)
def scan (s : ByteArray) : Nat → Nat → List S47 → Int → List S47 × ByteArray
  | 0, i, ws, f => (cutW s ws f s.size, ⟨#[]⟩)
  | n + 1, i, ws, f => if f < 0 ∧ isNote s i = true then (ws, s.extract i s.size) else scan s n (i + 1) (next s i ws f).1 (next s i ws f).2
theorem bt_nat (s : ByteArray) (i : Nat) (h : i < s.size) : bt s (i : Int) = ((s[i]).toNat : Int) := by
  have := bt_at s (i : Int) (by simpa using h)
  simp only [Int.toNat_natCast] at this
  exact this.symm
theorem ext2 (s : ByteArray) (i : Nat) (h : i + 1 < s.size) : ((s.extract i s.size).extract 0 2).toList = [s[i]'(by omega), s[i + 1]] := by
  have hd : i + 1 < s.data.toList.length := by rw [Array.length_toList]; exact h
  rw [ByteArray.toList_eq, ByteArray.data_extract, ByteArray.data_extract, Array.toList_extract, Array.toList_extract]
  simp only [List.extract_eq_take_drop, Nat.sub_zero, List.drop_zero, List.take_take]
  rw [List.drop_eq_getElem_cons (show i < s.data.toList.length by omega), List.drop_eq_getElem_cons hd]
  rw [show min 2 (s.size - i) = 2 by omega]
  simp only [List.take_succ_cons, List.take_zero, Array.getElem_toList]
  rfl
theorem hasPrefix_note (s : ByteArray) (i : Nat) (h : i < s.size) : strings_HasPrefix.f (s.extract i s.size) ⟨#[47, 47]⟩ = some (isNote s i) := by
  have hz : (⟨#[47, 47]⟩ : ByteArray).size = 2 := rfl
  have ht : (s.extract i s.size).size = s.size - i := by rw [ByteArray.size_extract]; omega
  have hl : (⟨#[47, 47]⟩ : ByteArray).toList = [47, 47] := by rw [ByteArray.toList_eq]
  unfold strings_HasPrefix.f stringslite_HasPrefix.f isNote
  rw [hz, ht]
  by_cases c : i + 1 < s.size
  · rw [if_pos (by omega), if_pos (by omega), if_pos (by omega), show ((2 : Nat) : Int).toNat = 2 from rfl, ext2 s i c, hl, decide_eq_true c, bt_nat s i h, bt_nat s (i + 1) c]
    simp only [Option.bind_some, Bool.true_and]
    congr 1
    have e : ∀ x : UInt8, (x == 47) = ((x.toNat : Int) == 47) := fun x => by
      rw [Bool.eq_iff_iff, beq_iff_eq, beq_iff_eq]
      constructor
      · intro h; rw [h]; rfl
      · intro h; exact UInt8.toNat_inj.1 (by have : x.toNat = 47 := by omega
                                             rw [this]; rfl)
    simp [e]
  · rw [if_neg (by omega), decide_eq_false c]; rfl
theorem odd_f (c : Int) : lex_odd.f c = some (oddC c) := by
  unfold lex_odd.f oddC
  by_cases c1 : c < 32
  · rw [if_pos c1, decide_eq_true c1]
    by_cases c2 : c = 9
    · subst c2; rfl
    · rw [if_neg c2, bne_iff_ne.2 c2]; simp
  · rw [if_neg c1, decide_eq_false c1]; simp
theorem take_on {w0 w : World} {g : Nat} {s note : ByteArray} {ws : List S47} {f : Int} (h : LexSt w0 g s ws note f w) (i : Nat) (hi : i < s.size) (hf : f < 0 ∨ (0 ≤ f ∧ f ≤ (i : Int))) (hn : ¬ (f < 0 ∧ isNote s i = true)) (hl : ws.length ≤ 100000000) (hs : s.size ≤ 1000000000) :
    Calls Tryd.prog 20 #[.pointer (some ⟨g, 0, none⟩), .int .i64 (i : Int)] w fun e w' => e = .returned (.bool true) ∧ Aside0 (LexSt w0 g s (next s i ws f).1 note (next s i ws f).2 w') := by
  have hb := bt_nat s i hi
  unfold next
  by_cases cs : sepC (bt s (i : Int)) = true
  · rw [if_pos cs]
    have hc : ((s[i]).toNat : Int) = 40 ∨ ((s[i]).toNat : Int) = 41 ∨ ((s[i]).toNat : Int) = 91 ∨ ((s[i]).toNat : Int) = 93 ∨ ((s[i]).toNat : Int) = 44 := by
      rw [hb] at cs; simpa [sepC, or_assoc] using cs
    rcases hf with hf | ⟨hf, hfi⟩
    · have hp : strings_HasPrefix.f (s.extract i s.size) ⟨#[47, 47]⟩ = some false := by
        rw [hasPrefix_note s i hi]; congr 1; exact Bool.eq_false_iff.2 fun e => hn ⟨hf, e⟩
      rcases hc with c | c | c | c | c
      · exact take_sep0_40 h i hi hf hp c hl hs
      · exact take_sep0_41 h i hi hf hp c hl hs
      · exact take_sep0_91 h i hi hf hp c hl hs
      · exact take_sep0_93 h i hi hf hp c hl hs
      · exact take_sep0_44 h i hi hf hp c hl hs
    · rcases hc with c | c | c | c | c
      · exact take_sep1_40 h i hi hf hfi c hl hs
      · exact take_sep1_41 h i hi hf hfi c hl hs
      · exact take_sep1_91 h i hi hf hfi c hl hs
      · exact take_sep1_93 h i hi hf hfi c hl hs
      · exact take_sep1_44 h i hi hf hfi c hl hs
  · rw [if_neg cs]
    by_cases cb : blC (bt s (i : Int)) = true
    · rw [if_pos cb]
      have hc : ((s[i]).toNat : Int) = 32 ∨ ((s[i]).toNat : Int) = 9 := by
        rw [hb] at cb; simpa [blC] using cb
      rcases hf with hf | ⟨hf, hfi⟩
      · have hp : strings_HasPrefix.f (s.extract i s.size) ⟨#[47, 47]⟩ = some false := by
          rw [hasPrefix_note s i hi]; congr 1; exact Bool.eq_false_iff.2 fun e => hn ⟨hf, e⟩
        rcases hc with c | c
        · exact take_blank0_32 h i hi hf hp c (by omega)
        · exact take_blank0_9 h i hi hf hp c (by omega)
      · rcases hc with c | c
        · exact take_blank1_32 h i hi hf hfi c (by omega)
        · exact take_blank1_9 h i hi hf hfi c (by omega)
    · rw [if_neg cb]
      have hx : ∀ c ∈ [40, 41, 91, 93, 44, 32, 9], ((s[i]).toNat : Int) ≠ c := by
        rw [hb] at cs cb
        simp [sepC, blC, not_or] at cs cb
        intro c hc
        simp only [List.mem_cons, List.not_mem_nil, or_false] at hc
        rcases hc with rfl | rfl | rfl | rfl | rfl | rfl | rfl <;> omega
      rcases hf with hf | ⟨hf, hfi⟩
      · have hp : strings_HasPrefix.f (s.extract i s.size) ⟨#[47, 47]⟩ = some false := by
          rw [hasPrefix_note s i hi]; congr 1; exact Bool.eq_false_iff.2 fun e => hn ⟨hf, e⟩
        rw [if_pos hf]; exact take_other0 h i hi hf hp hx
      · rw [if_neg (by omega)]; exact take_other1 h i hi hf hfi hx
theorem next_len (s : ByteArray) (i : Nat) (ws : List S47) (f : Int) : (next s i ws f).1.length ≤ ws.length + 2 := by
  have := cutW_le s ws f i
  unfold next
  split
  · simp; omega
  · split
    · simp only []; omega
    · simp only []; omega
theorem next_from (s : ByteArray) (i : Nat) (ws : List S47) (f : Int) (hf : f < 0 ∨ (0 ≤ f ∧ f ≤ (i : Int))) : (next s i ws f).2 < 0 ∨ (0 ≤ (next s i ws f).2 ∧ (next s i ws f).2 ≤ ((i + 1 : Nat) : Int)) := by
  unfold next
  split
  · exact .inl (by simp)
  · split
    · exact .inl (by simp)
    · simp only []; split <;> omega
end Go.Proofs.YtonjofjdmlblfaaDoor.P
