/- Unlike bytes have unlike signs, that are letters, digits, and two more; pads stand at the end alone, two at most. -/
import Derived.Test.YtjmomhicemjilaaDoorZB64ApartM1
import Derived.Test.YtjmomhicemjilaaDoorZB64ApartBSpec
import Derived.Test.YtjmomhicemjilaaDoorZB64ApartBLive
set_option linter.unusedVariables false
set_option linter.unusedSimpArgs false
namespace Go.Proofs.YtjmomhicemjilaaDoor.Pure
open Go.RowKit Go.Proofs.YtjmomhicemjilaaDoor.P Go.Proofs.YtjmomhicemjilaaDoor.Pl Go.Proofs.YtjmomhicemjilaaDoorW.PrintWords Go.Proofs.YtjmomhicemjilaaDoorW.PrintLast
def Letter (c : Int) : Prop := (65 ≤ c ∧ c ≤ 90) ∨ (97 ≤ c ∧ c ≤ 122) ∨ (48 ≤ c ∧ c ≤ 57) ∨ c = 43 ∨ c = 47
theorem S_letter (v : Int) (h0 : 0 ≤ v) (h1 : v < 64) : Letter (S v) := by
  have : ∀ n : Fin 64, (65 ≤ S (n.val : Int) ∧ S (n.val : Int) ≤ 90) ∨ (97 ≤ S (n.val : Int) ∧ S (n.val : Int) ≤ 122) ∨ (48 ≤ S (n.val : Int) ∧ S (n.val : Int) ≤ 57) ∨ S (n.val : Int) = 43 ∨ S (n.val : Int) = 47 := by decide +kernel
  obtain ⟨m, rfl⟩ := Int.eq_ofNat_of_zero_le h0
  exact this ⟨m, by omega⟩
theorem encS_letters (l : List Int) (h : InB l) : ∀ c ∈ encS l, Letter c := by
  fun_induction encS l with
  | case1 a b c r ih =>
    have ha := h a (by simp); have hb := h b (by simp); have hc := h c (by simp)
    intro x hx
    simp only [List.mem_cons] at hx
    rcases hx with rfl | rfl | rfl | rfl | hx
    · exact S_letter _ (by omega) (by omega)
    · exact S_letter _ (by omega) (by omega)
    · exact S_letter _ (by omega) (by omega)
    · exact S_letter _ (by omega) (by omega)
    · exact ih (fun y hy => h y (by simp [hy])) x hx
  | case2 a b =>
    have ha := h a (by simp); have hb := h b (by simp)
    intro x hx
    simp only [List.mem_cons, List.not_mem_nil, or_false] at hx
    rcases hx with rfl | rfl | rfl
    · exact S_letter _ (by omega) (by omega)
    · exact S_letter _ (by omega) (by omega)
    · exact S_letter _ (by omega) (by omega)
  | case3 a =>
    have ha := h a (by simp)
    intro x hx
    simp only [List.mem_cons, List.not_mem_nil, or_false] at hx
    rcases hx with rfl | rfl
    · exact S_letter _ (by omega) (by omega)
    · exact S_letter _ (by omega) (by omega)
  | case4 => intro x hx; cases hx
theorem apart_pads (s e : ByteArray) (a : List Int) (p : Nat) (he : bs e = a ++ List.replicate p 61) (hp : (p : Int) = (3 - (s.size : Int) % 3) % 3) (hz : e.size ≤ 100000) (d : Nat) : ∀ (k i : Nat), e.size - i = d → a.length ≤ i → i ≤ e.size → d < k →
    armadalaw13_B64Apart.l0 k s e ((i - a.length : Nat) : Int) (i : Int) = some true := by
  have hl : e.size = a.length + p := by rw [← bs_length, he, List.length_append, List.length_replicate]
  induction d with
  | zero =>
    intro k i hd h1 hi hk
    obtain ⟨k, rfl⟩ : ∃ m, k = m + 1 := ⟨k - 1, by omega⟩
    rw [armadalaw13_B64Apart.l0, if_neg (by omega), if_pos (by omega)]
    exact live_bind
  | succ d ih =>
    intro k i hd h1 hi hk
    obtain ⟨k, rfl⟩ : ∃ m, k = m + 1 := ⟨k - 1, by omega⟩
    have hlt : i < e.size := by omega
    have hb : bt e (i : Int) = 61 := by
      rw [bt_bs e i hlt]
      simp only [he]
      rw [List.getElem_append_right (by omega), List.getElem_replicate]
    rw [armadalaw13_B64Apart.l0, if_pos (by omega), if_pos (by omega), hb, if_pos rfl, w64 (x := ((i - a.length : Nat) : Int) + 1) (by omega) (by omega), w64 (x := (i : Int) + 1) (by omega) (by omega)]
    have := ih k (i + 1) (by omega) (by omega) (by omega) (by omega)
    rw [show (((i + 1 - a.length : Nat)) : Int) = ((i - a.length : Nat) : Int) + 1 by omega] at this
    exact this
theorem apart_signs (s e : ByteArray) (a : List Int) (p : Nat) (he : bs e = a ++ List.replicate p 61) (ha : ∀ c ∈ a, Letter c) (hp : (p : Int) = (3 - (s.size : Int) % 3) % 3) (hz : e.size ≤ 100000) (d : Nat) : ∀ (k i : Nat), a.length - i = d → i ≤ a.length → d + e.size + 1 < k →
    armadalaw13_B64Apart.l0 k s e 0 (i : Int) = some true := by
  have hl : e.size = a.length + p := by rw [← bs_length, he, List.length_append, List.length_replicate]
  induction d with
  | zero =>
    intro k i hd hi hk
    have := apart_pads s e a p he hp hz (e.size - i) k i rfl (by omega) (by omega) (by omega)
    rw [show i - a.length = 0 by omega] at this
    exact this
  | succ d ih =>
    intro k i hd hi hk
    obtain ⟨k, rfl⟩ : ∃ m, k = m + 1 := ⟨k - 1, by omega⟩
    have hlt : i < e.size := by omega
    have c1 : (i : Int) < (e.size : Int) := by omega
    have c2 : (0 : Int) ≤ (i : Int) := by omega
    have hrec := ih k (i + 1) (by omega) (by omega) (by omega)
    have hb : bt e (i : Int) = a[i]'(by omega) := by
      rw [bt_bs e i hlt]
      simp only [he]
      rw [List.getElem_append_left (by omega)]
    have hc := ha _ (List.getElem_mem (show i < a.length by omega))
    rw [← hb] at hc
    clear hb
    have hw : wrap64 ((i : Int) + 1) = ((i + 1 : Nat) : Int) := by rw [w64 (by omega) (by omega)]; omega
    rw [armadalaw13_B64Apart.l0, if_pos c1, if_pos c2, hw, hrec]
    generalize bt e (i : Int) = c at hc ⊢
    have h0 : ¬ ((0 : Int) > 0) := by omega
    rw [if_neg (show ¬ c = 61 by unfold Letter at hc; omega)]
    simp only [if_neg h0]
    unfold Letter at hc
    clear hrec ih he ha hp hz hl hd hi hk hlt hw h0 c1 c2
    clear d k i p s e a
    rcases hc with hc | hc | hc | hc | hc
    · rw [if_pos (by omega), if_pos (by omega)]
    · rw [if_pos (by omega), if_neg (by omega), if_pos (by omega), if_pos (by omega)]
    · rw [if_neg (by omega), if_neg (by omega), if_pos (by omega), if_pos (by omega)]
    · rw [if_neg (by omega), if_neg (by omega), if_neg (by omega), if_pos (by omega)]
    · rw [if_neg (by omega), if_neg (by omega), if_neg (by omega), if_neg (by omega), if_pos (by omega)]
theorem B64Apart : armadalaw13_B64Apart.Pure := by
  intro s t _ _
  refine ⟨100010, ?_⟩
  unfold armadalaw13_B64Apart.f
  have key : ∀ b : Bool, (b = false → s.size ≤ 2000 ∧ t.size ≤ 2000) → armadalaw13_B64Apart.j0 100010 s t b = some true := by
    intro b hb
    rw [armadalaw13_B64Apart.j0]
    cases b with
    | true => rw [if_pos rfl]; exact live_bind
    | false =>
      obtain ⟨hs, ht⟩ := hb rfl
      obtain ⟨x, hx, hbx, hzx⟩ := Encode_spec s (by omega)
      obtain ⟨y, hy, hby, hzy⟩ := Encode_spec t (by omega)
      have heq : (x.toList == y.toList) = (s.toList == t.toList) := by
        rw [Bool.eq_iff_iff, beq_iff_eq, beq_iff_eq, ByteArray.toList_eq, ByteArray.toList_eq, ByteArray.toList_eq, ByteArray.toList_eq]
        constructor
        · intro h
          have h1 : bs x = bs y := by unfold bs; rw [h]
          rw [hbx, hby] at h1
          rw [bs_inj (encP_inj (bs_range s) (bs_range t) h1)]
        · intro h
          have h1 : bs s = bs t := by unfold bs; rw [h]
          have h2 : bs x = bs y := by rw [hbx, hby, h1]
          rw [bs_inj h2]
      rw [if_neg (by decide), hx, Option.bind_some, hy, Option.bind_some, heq, if_neg (by simp), hzx, show ((((4 * ((s.size + 2) / 3) : Nat) : Int) % 4) != 0) = false by rw [bne_eq_false_iff_eq]; omega]
      rw [armadalaw13_B64Apart.j1, if_neg (by decide)]
      refine apart_signs s x (encS (bs s)) (padsN (bs s)) hbx (encS_letters _ (bs_range s)) (by rw [padsN_mod, bs_length]; omega) (by omega) _ _ 0 rfl (by omega) ?_
      have hle : (encS (bs s)).length ≤ x.size := by
        have := congrArg List.length hbx
        rw [bs_length] at this
        unfold encP at this
        rw [List.length_append] at this
        omega
      omega
  by_cases h : (s.size : Int) > 2000
  · rw [if_pos h]; exact key true (by simp)
  · rw [if_neg h]; exact key _ (fun h2 => by have := of_decide_eq_false h2; omega)
end Go.Proofs.YtjmomhicemjilaaDoor.Pure
