/- rec's Join, of the program and of the document: the same. -/
import Derived.Test.YtajgpmeilpjadaaZRecCutsRCut
set_option linter.unusedVariables false
set_option linter.unusedSimpArgs false
namespace Go.Proofs.Ytajgpmeilpjadaa.Pl
set_option linter.unusedSimpArgs false
open Go.RowKit Go.Proofs.Ytajgpmeilpjadaa.P Go.Proofs.YtajgpmeilpjadaaW.PrintWords Go.Proofs.YtajgpmeilpjadaaW.PrintLast Go.Proofs.YtajgpmeilpjadaaW.PrintMore
/-- Do sectors join to a payload of a size? -/
def joins (l : List ByteArray) (n : Int) : Prop := cntP n = (l.length : Int) ∧ odd32 l = false ∧ cutP ((joined l).extract 0 n.toNat) = l
instance (l : List ByteArray) (n : Int) : Decidable (joins l n) := by unfold joins; infer_instance
def joinP (l : List ByteArray) (n : Int) : ByteArray × Bool := if joins l n then ((joined l).extract 0 n.toNat, true) else (⟨#[]⟩, false)
theorem cntP_some {n : Int} {m : Nat} (h : cntP n = (m : Int)) : 0 ≤ n ∧ n ≤ 4096 ∧ m = cntN n.toNat := by
  unfold cntP cntN at *
  split at h <;> omega
theorem cutP_length (s : ByteArray) (h : s.size ≤ 4096) : (cutP s).length = cntN s.size := by unfold cutP; rw [if_pos h, cutN_length]
theorem Join_spec (l : List ByteArray) (n : Int) (k : Nat) (hk : 300 ≤ k) : rec_Join.f k l n = some (joinP l n) := by
  unfold rec_Join.f joinP
  rw [Count_spec, Option.bind_some]
  by_cases h : cntP n = (l.length : Int)
  · rw [if_pos h]
    obtain ⟨h0, h1, h2⟩ := cntP_some h
    by_cases ho : odd32 l = true
    · rw [if_pos ho, if_neg (fun x => by rw [x.2.1] at ho; cases ho)]
    · have ho' : odd32 l = false := by simpa using ho
      have hj := joined_size l ho'
      have hsz : ((joined l).extract 0 n.toNat).size = n.toNat := by rw [ByteArray.size_extract, hj]; unfold cntN at h2; omega
      rw [if_neg ho, if_pos (by unfold cntN at h2; omega), if_pos h0, if_pos (by rw [hj]; unfold cntN at h2; omega), Cut_spec _ k (by omega), Option.bind_some, Equal_spec _ l (by rw [cutP_length _ (by omega), hsz]; unfold cntN; omega) k (by rw [cutP_length _ (by omega), hsz]; unfold cntN; omega), Option.bind_some]
      by_cases hc : cutP ((joined l).extract 0 n.toNat) = l
      · rw [if_pos (decide_eq_true hc), if_pos ⟨h, ho', hc⟩]
      · rw [if_neg (by simpa using hc), if_neg (fun x => hc x.2.2)]
  · rw [if_neg h, if_neg (fun x => h x.1)]
theorem refJoin_l1 (l c : List ByteArray) (s : ByteArray) (hl : c.length = l.length) (hm : l.length ≤ 9223372036854775807) (d : Nat) : ∀ (k i : Nat), l.length - i = d → i ≤ l.length → d < k →
    armadaref03_Join.l1 k l s c (i : Int) = some (if c.drop i = l.drop i then (s, true) else (⟨#[]⟩, false)) := by
  induction d with
  | zero =>
    intro k i hd hi hk
    obtain ⟨k, rfl⟩ : ∃ m, k = m + 1 := ⟨k - 1, by omega⟩
    rw [armadaref03_Join.l1, if_neg (by omega), List.drop_of_length_le (by omega), List.drop_of_length_le (by omega), if_pos rfl]
  | succ d ih =>
    intro k i hd hi hk
    obtain ⟨k, rfl⟩ : ∃ m, k = m + 1 := ⟨k - 1, by omega⟩
    have ha : i < c.length := by omega
    have hb : i < l.length := by omega
    rw [armadaref03_Join.l1, if_pos (by omega), if_pos (by omega), if_pos (by omega), rdOf_get c i ha, rdOf_get l i hb, List.drop_eq_getElem_cons ha, List.drop_eq_getElem_cons hb]
    by_cases h : c[i] = l[i]
    · rw [if_pos (by rw [h]), w64 (by omega) (by omega)]
      refine (ih k (i + 1) (by omega) (by omega) (by omega)).trans ?_
      simp only [List.cons.injEq, h, true_and]
    · rw [if_neg (fun h2 => h (toList_inj h2))]
      simp only [List.cons.injEq, h, false_and, if_false]
theorem getD_get (l : List ByteArray) (i : Nat) (h : i < l.length) : l.getD i ByteArray.empty = l[i] := by
  rw [List.getD_eq_getElem?_getD, List.getElem?_eq_getElem h]
  rfl
theorem refJoin_l0 (l : List ByteArray) (n : Int) (h : cntP n = (l.length : Int)) (d : Nat) : ∀ (k i : Nat), l.length - i = d → i ≤ l.length → d + 300 < k → odd32 (l.take i) = false →
    armadaref03_Join.l0 k l n (joined (l.take i)) (i : Int) = some (joinP l n) := by
  obtain ⟨h0, h1, h2⟩ := cntP_some h
  induction d with
  | zero =>
    intro k i hd hi hk ho
    obtain ⟨k, rfl⟩ : ∃ m, k = m + 1 := ⟨k - 1, by omega⟩
    rw [List.take_of_length_le (by omega)] at ho ⊢
    have hj := joined_size l ho
    have hsz : ((joined l).extract 0 n.toNat).size = n.toNat := by rw [ByteArray.size_extract, hj]; unfold cntN at h2; omega
    rw [armadaref03_Join.l0, if_neg (by omega), if_pos h0, if_pos (by rw [hj]; unfold cntN at h2; omega), refCut_spec _ k (by omega), Option.bind_some]
    have := refJoin_l1 l (cutP ((joined l).extract 0 n.toNat)) ((joined l).extract 0 n.toNat) (by rw [cutP_length _ (by omega), hsz, h2]) (by unfold cntN at h2; omega) l.length k 0 (by omega) (by omega) (by unfold cntN at h2; omega)
    rw [List.drop_zero, List.drop_zero] at this
    refine this.trans ?_
    unfold joinP
    by_cases hc : cutP ((joined l).extract 0 n.toNat) = l
    · rw [if_pos hc, if_pos ⟨h, ho, hc⟩]
    · rw [if_neg hc, if_neg (fun x => hc x.2.2)]
  | succ d ih =>
    intro k i hd hi hk ho
    obtain ⟨k, rfl⟩ : ∃ m, k = m + 1 := ⟨k - 1, by omega⟩
    have hb : i < l.length := by omega
    rw [armadaref03_Join.l0, if_pos (by omega), if_pos (by omega), rdOf_get l i hb]
    have hst := odd_take_succ l i hb
    rw [ho, Bool.false_or, getD_get l i hb] at hst
    by_cases hz : l[i].size = 32
    · have ho2 : odd32 (l.take (i + 1)) = false := by rw [hst, hz]; rfl
      have hj := joined_size _ ho
      rw [List.length_take] at hj
      rw [if_pos (by omega), if_pos (by omega), if_pos (by rw [hj, ByteArray.size_extract]; unfold cntN at h2; omega), w64 (by omega) (by unfold cntN at h2; omega)]
      have := ih k (i + 1) (by omega) (by omega) (by omega) ho2
      rw [joined_take l i hb, getD_get l i hb] at this
      exact this
    · rw [if_neg (by omega)]
      unfold joinP
      rw [if_neg (fun x => by
        have := odd_of_take l (i + 1) (by rw [hst]; simpa using hz)
        rw [x.2.1] at this
        cases this)]
theorem refJoin_spec (l : List ByteArray) (n : Int) (k : Nat) (hk : 1000 ≤ k) : armadaref03_Join.f k l n = some (joinP l n) := by
  unfold armadaref03_Join.f
  rw [refCount_spec, Option.bind_some]
  by_cases h : cntP n = (l.length : Int)
  · rw [if_pos h]
    obtain ⟨h0, h1, h2⟩ := cntP_some h
    exact refJoin_l0 l n h l.length k 0 (by omega) (by omega) (by unfold cntN at h2; omega) rfl
  · rw [if_neg h]
    unfold joinP
    rw [if_neg (fun x => h x.1)]
end Go.Proofs.Ytajgpmeilpjadaa.Pl
