/- rec.Join: the third way, in which the payload is joined. -/
import Derived.Test.YtajgpmeilpjadaaZRecSpoiltRGJoin
namespace Go.Proofs.Ytajgpmeilpjadaa.P
open Go.RowKit Go.Shelf Go.Proofs.YtajgpmeilpjadaaW.PrintWords Go.Proofs.YtajgpmeilpjadaaW.PrintLast Go.Proofs.YtajgpmeilpjadaaW.PrintMore
set_option linter.unusedVariables false
set_option linter.unusedSimpArgs false
theorem cells_append (a b : ByteArray) : Lib.strCells (a ++ b) = Lib.strCells a ++ Lib.strCells b := by
  simp only [Lib.strCells, ByteArray.data_append, Array.toList_append, List.map_append]
/-- A builder that holds this text, in a block of its own. -/
def BldS (w0 : World) (g : Nat) (t : ByteArray) (w : World) : Prop := Lib.IsBuilder 56 5 w0.heap.size g (Lib.strCells t) w ∧ Below w0.heap.size w0 w
theorem BldS.text {w0 w : World} {g : Nat} {t : ByteArray} (h : BldS w0 g t w) (s : ByteArray) (hl : t.size + s.size ≤ 140737488355328) :
    Calls Try.prog 34 #[.pointer (some ⟨g, 0, none⟩), .string s] w fun e w' => (∃ n : Int, e = .returned (.tuple #[.int .i64 n, .nilIface])) ∧ Aside0 (BldS w0 g (t ++ s) w') := by
  refine (Builder_WriteString w0.heap.size g _ s w h.1 (by rw [Lib.strCells_length]; exact hl) h.2.size).mono ?_
  rintro e w' ⟨rfl, h1, h2⟩
  exact ⟨⟨_, rfl⟩, ⟨⟨by rw [cells_append]; exact Or.inr h1, h.2.trans h2⟩⟩⟩
theorem BldS.string {w0 w : World} {g : Nat} {t : ByteArray} (h : BldS w0 g t w) :
    Calls Try.prog 35 #[.pointer (some ⟨g, 0, none⟩)] w fun e w' => e = .returned (.string t) ∧ Aside0 (Below w0.heap.size w0 w') := by
  have h1 := h.1
  rw [Lib.strCells_eq] at h1
  refine (Try.Builder_String_any w0.heap.size g _ w h1 h.2.size).mono ?_
  rintro e w' ⟨rfl, h2⟩
  exact ⟨by rw [Array.toArray_toList], ⟨h.2.trans h2⟩⟩
theorem joined_take (l : List ByteArray) : ∀ (i : Nat), i < l.length → joined (l.take (i + 1)) = joined (l.take i) ++ (l.getD i ByteArray.empty).extract 1 (l.getD i ByteArray.empty).size := by
  induction l with
  | nil => intro i h; cases h
  | cons s l ih =>
    intro i h
    cases i with
    | zero =>
      simp only [List.take_succ_cons, List.take_zero, joined, List.getD_cons_zero]
      apply ByteArray.ext
      simp [ByteArray.data_append]
    | succ i =>
      have := ih i (by simpa using h)
      simp only [List.take_succ_cons, joined, this, List.getD_cons_succ, ByteArray.append_assoc]
theorem joined_size (l : List ByteArray) (h : odd32 l = false) : (joined l).size = 31 * l.length := by
  induction l with
  | nil => rfl
  | cons s l ih =>
    unfold odd32 at h
    simp only [List.any_cons, Bool.or_eq_false_iff, bne_eq_false_iff_eq] at h
    have := ih (by unfold odd32; exact h.2)
    simp only [joined, ByteArray.size_append, ByteArray.size_extract, this, h.1, List.length_cons]
    omega
theorem odd_false_take (l : List ByteArray) (i : Nat) (h : odd32 l = false) : odd32 (l.take i) = false := by
  cases h2 : odd32 (l.take i) with
  | false => rfl
  | true => rw [odd_of_take l i h2] at h; cases h
theorem size_of (l : List ByteArray) (h : odd32 l = false) (i : Nat) (hi : i < l.length) : (l.getD i ByteArray.empty).size = 32 := by
  have h1 := odd_take_succ l i hi
  rw [odd_false_take l (i + 1) h, odd_false_take l i h, Bool.false_or] at h1
  exact (bne_eq_false_iff_eq.mp h1.symm)
theorem pw_below_drewN_alloc (w : World) (n : Nat) (o : Obj) : Below w.heap.size w ((w.drewN n).alloc o) := (pw_below_drewN (Below.refl _ _) n).alloc (Nat.le_refl _) o
set_option maxHeartbeats 8000000 in
set_option maxRecDepth 100000 in
theorem join_yes (k : Nat) (A : Option Addr) (c : Nat) (l : List ByteArray) (a1 n : Int) (cs : List ByteArray) (w : World) (hr : Kd.C Kd.string w A l.length l) (hc : l.length ≤ c) (h : rec_Count.f a1 = some n) (hn : n = (l.length : Int)) (ho : odd32 l = false)
    (hl : l.length ≤ 4000000000000) (h0 : 0 ≤ a1) (h1 : a1 ≤ ((joined l).size : Int)) (hcut : rec_Cut.f k ((joined l).extract 0 a1.toNat) = some cs) (q : Bool) (heq : slices_Equal_string_string.f k cs l = some q) :
    Calls Try.prog 15 #[.slice A l.length c, .int .i64 a1] w fun e w' => e = .returned (.tuple #[.string (if q = true then (joined l).extract 0 a1.toNat else ⟨#[]⟩), .bool q]) ∧ Below w.heap.size w w' := by
  have HR := Aside0.mk hr
  have HC := Aside0.mk h
  have HO := Aside0.mk ho
  have HL := Aside0.mk hl
  have d0 : (n != (l.length : Int)) = false := bne_eq_false_iff_eq.mpr hn
  have d1 : (n == (l.length : Int)) = true := beq_iff_eq.mpr hn
  have H0 := Aside0.mk h0
  have H1 := Aside0.mk h1
  have HCut := Aside0.mk hcut
  have HEq := Aside0.mk heq
  have HCc := Aside0.mk hc
  clear hr h hn ho hl h0 h1 hcut heq hc
  go_enter Try.func15, Try.ntmps15
  go_wp2_with (first
    | (go_at_call 20; (with_reducible refine (rec_Count.calls a1 n _ HC.out).mono ?_); rintro e w' ⟨rfl, ⟨nd, rfl⟩⟩)
    | (go_at_call 32; refine (contains_odd A c l _ (Kd.C_drewN HR.out nd)).mono ?_; rintro e w' ⟨rfl, ⟨nd2, rfl⟩⟩; rw [HO.out]))
  have hB0 : Aside0 (BldS w w.heap.size ⟨#[]⟩ ((w.drewN (nd + nd2)).alloc (.cells #[.pointer none, .slice none 0 0] 56))) := ⟨Lib.fresh_isBuilder 56 5 (w.drewN (nd + nd2)), pw_below_drewN_alloc w (nd + nd2) _⟩
  go_loopg [21] l.length (fun kq v21 w' => ∃ i : Nat, v21 = .int .i64 (i : Int) ∧ Aside0 (kq + i = l.length) ∧ Aside0 (BldS w w.heap.size (joined (l.take i)) w'))
  case atStart => exact ⟨0, rfl, ⟨rfl⟩, hB0⟩
  case round =>
    clear hB0
    obtain ⟨i, rfl, HK, HJ⟩ := hrel
    cases gk with
    | zero =>
      have c0 : decide (i < l.length) = false := decide_eq_false (by have := HK.out; omega)
      have c1 : decide ((i : Int) < (l.length : Int)) = false := decide_eq_false (by have := HK.out; omega)
      have hJ : Aside0 (joined (l.take i) = joined l) := ⟨by rw [List.take_of_length_le (by have := HK.out; omega)]⟩
      have b0 : 0 ≤ a1 := H0.out
      obtain ⟨J, hJJ⟩ : ∃ J, joined l = J := ⟨_, rfl⟩
      have b1 : a1 ≤ (J.size : Int) := by rw [← hJJ]; exact H1.out
      rw [hJJ] at HCut
      have hS : Aside0 (BldS w w.heap.size J wr) := ⟨by rw [← hJJ, ← hJ.out]; exact HJ.out⟩
      cases q with
      | true =>
        go_wp2_with (first
          | (go_at_call 35; (with_reducible refine (BldS.string hS.out).mono ?_); rintro e w2 ⟨rfl, hb2⟩)
          | (go_at_call 18; (with_reducible refine (rec_Cut.calls k _ cs _ HCut.out).mono ?_); rintro e w3 ⟨v3, rfl, hR3, hb3⟩; replace hb3 := Aside0.mk hb3; replace hR3 := Aside0.mk hR3; obtain ⟨A3, c3, e3⟩ := Kd.R_slice hR3.out; subst e3)
          | (go_at_call 36; refine (slices_Equal_string_string.calls k A3 c3 cs A c l true _ (Kd.R_reads' hR3.out).2.2 (Kd.R_reads' hR3.out).2.1 (Kd.C_below HR.out (hb2.out.trans (hb3.out.mono hb2.out.size))) HCc.out HEq.out).mono ?_; rintro e w' ⟨rfl, ⟨nd4, rfl⟩⟩))
        go_ret2
        exact ⟨rfl, pw_below_drewN (hb2.out.trans (hb3.out.mono hb2.out.size)) nd4⟩
      | false =>
        go_wp2_with (first
          | (go_at_call 35; (with_reducible refine (BldS.string hS.out).mono ?_); rintro e w2 ⟨rfl, hb2⟩)
          | (go_at_call 18; (with_reducible refine (rec_Cut.calls k _ cs _ HCut.out).mono ?_); rintro e w3 ⟨v3, rfl, hR3, hb3⟩; replace hb3 := Aside0.mk hb3; replace hR3 := Aside0.mk hR3; obtain ⟨A3, c3, e3⟩ := Kd.R_slice hR3.out; subst e3)
          | (go_at_call 36; refine (slices_Equal_string_string.calls k A3 c3 cs A c l false _ (Kd.R_reads' hR3.out).2.2 (Kd.R_reads' hR3.out).2.1 (Kd.C_below HR.out (hb2.out.trans (hb3.out.mono hb2.out.size))) HCc.out HEq.out).mono ?_; rintro e w' ⟨rfl, ⟨nd4, rfl⟩⟩))
        go_ret2
        exact ⟨rfl, pw_below_drewN (hb2.out.trans (hb3.out.mono hb2.out.size)) nd4⟩
    | succ k1 =>
      have hi : Aside0 (i < l.length) := ⟨by have := HK.out; omega⟩
      have c0 : decide (i < l.length) = true := decide_eq_true hi.out
      have c1 : decide ((i : Int) < (l.length : Int)) = true := decide_eq_true (by have := hi.out; omega)
      obtain ⟨ad, rfl, ha0⟩ := Kd.at_string HR.out (i : Int) (by omega) (by have := hi.out; omega)
      have ha := (HJ.out.2.cell (World.block_lt_of_cell? w _ ha0)).trans ha0
      clear ha0
      rw [Int.toNat_natCast] at ha
      obtain ⟨s, hs⟩ : ∃ s, rdOf ByteArray.empty l (i : Int) = s := ⟨_, rfl⟩
      rw [hs] at ha
      have hs2 : Aside0 (l.getD i ByteArray.empty = s) := ⟨hs⟩
      clear hs
      have hsz : s.size = 32 := by rw [← hs2.out]; exact size_of l HO.out i hi.out
      have s1 : (1 : Int) ≤ (s.size : Int) := by omega
      have s2 : 1 ≤ s.size := by omega
      have hjl : Aside0 ((joined (l.take i)).size + (s.extract 1 s.size).size ≤ 140737488355328) := ⟨by
        rw [joined_size _ (odd_false_take l i HO.out), ByteArray.size_extract, List.length_take, hsz]
        have := HL.out
        omega⟩
      have hx : 0 ≤ (i : Int) ∧ (i : Int) < (l.length : Int) := ⟨by omega, by have := hi.out; omega⟩
      have hx2 : i < l.length := hi.out
      have hw : IntKind.i64.wrap ((i : Int) + 1) = (i : Int) + 1 := by rw [IntKind.wrap_i64]; have := hi.out; have := HL.out; omega
      have hstep := Aside0.mk (joined_take l i hi.out)
      replace hsz := Aside0.mk hsz
      go_wp2_with (go_at_call 34; (with_reducible refine (BldS.text HJ.out (s.extract 1 s.size) hjl.out).mono ?_); rintro e w2 ⟨⟨m, rfl⟩, HJ2⟩)
      go_roundg k1
      case measure => omega
      case rel =>
        refine ⟨i + 1, rfl, ⟨by have := HK.out; omega⟩, ⟨?_⟩⟩
        rw [hstep.out, hs2.out]
        exact HJ2.out
end Go.Proofs.Ytajgpmeilpjadaa.P
