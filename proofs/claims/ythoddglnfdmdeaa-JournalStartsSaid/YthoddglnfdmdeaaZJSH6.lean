/- rec.Join: the third way, in which the payload is joined. -/
import Derived.Test.YthoddglnfdmdeaaZJSH5
import Derived.Test.YthoddglnfdmdeaaZJSM0
import Derived.Test.YthoddglnfdmdeaaZJSAl
namespace Go.Proofs.Ythoddglnfdmdeaa.P
open Go.RowKit Go.Shelf Go.Proofs.YthoddglnfdmdeaaW.PrintWords Go.Proofs.YthoddglnfdmdeaaW.PrintLast Go.Proofs.YthoddglnfdmdeaaW.PrintMore
set_option linter.unusedVariables false
set_option linter.unusedSimpArgs false
theorem cells_append (a b : ByteArray) : Lib.strCells (a ++ b) = Lib.strCells a ++ Lib.strCells b := by
  simp only [Lib.strCells, ByteArray.data_append, Array.toList_append, List.map_append]
/-- A builder that holds this text, in a block of its own. -/
def BldS (w0 : World) (g : Nat) (t : ByteArray) (w : World) : Prop := Lib.IsBuilder 108 5 w0.heap.size g (Lib.strCells t) w ∧ Below w0.heap.size w0 w
theorem BldS.text {w0 w : World} {g : Nat} {t : ByteArray} (h : BldS w0 g t w) (s : ByteArray) (hl : t.size + s.size ≤ 140737488355328) :
    Calls Try.prog 67 #[.pointer (some ⟨g, 0, none⟩), .string s] w fun e w' => (∃ n : Int, e = .returned (.tuple #[.int .i64 n, .nilIface])) ∧ Aside0 (BldS w0 g (t ++ s) w') := by
  refine (Builder_WriteString w0.heap.size g _ s w h.1 (by rw [Lib.strCells_length]; exact hl) h.2.size).mono ?_
  rintro e w' ⟨rfl, h1, h2⟩
  exact ⟨⟨_, rfl⟩, ⟨⟨by rw [cells_append]; exact Or.inr h1, h.2.trans h2⟩⟩⟩
theorem BldS.string {w0 w : World} {g : Nat} {t : ByteArray} (h : BldS w0 g t w) :
    Calls Try.prog 69 #[.pointer (some ⟨g, 0, none⟩)] w fun e w' => e = .returned (.string t) ∧ Aside0 (Below w0.heap.size w0 w') := by
  have h1 := h.1
  rw [Lib.strCells_eq] at h1
  refine (Try.Builder_String_any w0.heap.size g _ w h1 h.2.size).mono ?_
  rintro e w' ⟨rfl, h2⟩
  exact ⟨by rw [Array.toArray_toList], ⟨h.2.trans h2⟩⟩
theorem joined_take (l : List ByteArray) : ∀ (i : Nat), i < l.length → joined (l.take (i + 1)) = joined (l.take i) ++ (l.getD i ByteArray.empty).extract 1 (l.getD i ByteArray.empty).size := by
  induction l with
  | nil => intro i h; cases h
  | cons s l ih =>
    intro i h
    cases i with
    | zero =>
      simp only [List.take_succ_cons, List.take_zero, joined, List.getD_cons_zero]
      apply ByteArray.ext
      simp [ByteArray.data_append]
    | succ i =>
      have := ih i (by simpa using h)
      simp only [List.take_succ_cons, joined, this, List.getD_cons_succ, ByteArray.append_assoc]
theorem joined_size (l : List ByteArray) (h : odd32 l = false) : (joined l).size = 31 * l.length := by
  induction l with
  | nil => rfl
  | cons s l ih =>
    unfold odd32 at h
    simp only [List.any_cons, Bool.or_eq_false_iff, bne_eq_false_iff_eq] at h
    have := ih (by unfold odd32; exact h.2)
    simp only [joined, ByteArray.size_append, ByteArray.size_extract, this, h.1, List.length_cons]
    omega
theorem odd_false_take (l : List ByteArray) (i : Nat) (h : odd32 l = false) : odd32 (l.take i) = false := by
  cases h2 : odd32 (l.take i) with
  | false => rfl
  | true => rw [odd_of_take l i h2] at h; cases h
theorem size_of (l : List ByteArray) (h : odd32 l = false) (i : Nat) (hi : i < l.length) : (l.getD i ByteArray.empty).size = 32 := by
  have h1 := odd_take_succ l i hi
  rw [odd_false_take l (i + 1) h, odd_false_take l i h, Bool.false_or] at h1
  exact (bne_eq_false_iff_eq.mp h1.symm)
theorem pw_below_drewN_alloc (w : World) (n : Nat) (o : Obj) : Below w.heap.size w ((w.drewN n).alloc o) := (pw_below_drewN (Below.refl _ _) n).alloc (Nat.le_refl _) o
set_option maxHeartbeats 8000000 in
set_option maxRecDepth 100000 in
theorem join_yes (k : Nat) (A : Option Addr) (c : Nat) (l : List ByteArray) (a1 n : Int) (cs : List ByteArray) (w : World) (hr : Kd.C Kd.string w A l.length l) (hc : l.length ≤ c) (h : rec_Count.f a1 = some n) (hn : n = (l.length : Int)) (ho : odd32 l = false)
    (hl : l.length ≤ 4000000000000) (h0 : 0 ≤ a1) (h1 : a1 ≤ ((joined l).size : Int)) (hcut : rec_Cut.f k ((joined l).extract 0 a1.toNat) = some cs) (q : Bool) (heq : slices_Equal_string_string.f k cs l = some q) :
    Calls Try.prog 56 #[.slice A l.length c, .int .i64 a1] w fun e w' => e = .returned (.tuple #[.string (if q = true then (joined l).extract 0 a1.toNat else ⟨#[]⟩), .bool q]) ∧ Below w.heap.size w w' := by
  have HR := Aside0.mk hr
  have HC := Aside0.mk h
  have HO := Aside0.mk ho
  have HL := Aside0.mk hl
  have d0 : (n != (l.length : Int)) = false := bne_eq_false_iff_eq.mpr hn
  have d1 : (n == (l.length : Int)) = true := beq_iff_eq.mpr hn
  have H0 := Aside0.mk h0
  have H1 := Aside0.mk h1
  have HCut := Aside0.mk hcut
  have HEq := Aside0.mk heq
  have HCc := Aside0.mk hc
  clear hr h hn ho hl h0 h1 hcut heq hc
  go_enter Try.func56, Try.ntmps56
  go_wp2_with (first
    | (go_at_call 43; (with_reducible refine (rec_Count.calls a1 n _ HC.out).mono ?_); rintro e w' ⟨rfl, ⟨nd, rfl⟩⟩)
    | (go_at_call 73; refine (contains_odd A c l _ (Kd.C_drewN HR.out nd)).mono ?_; rintro e w' ⟨rfl, ⟨nd2, rfl⟩⟩; rw [HO.out]))
  have hB0 : Aside0 (BldS w w.heap.size ⟨#[]⟩ ((w.drewN (nd + nd2)).alloc (.cells #[.pointer none, .slice none 0 0] 108))) := ⟨Lib.fresh_isBuilder 108 5 (w.drewN (nd + nd2)), pw_below_drewN_alloc w (nd + nd2) _⟩
  go_loopg [21] l.length (fun kq v21 w' => ∃ i : Nat, v21 = .int .i64 (i : Int) ∧ Aside0 (kq + i = l.length) ∧ Aside0 (BldS w w.heap.size (joined (l.take i)) w'))
  case atStart => exact ⟨0, rfl, ⟨rfl⟩, hB0⟩
  case round =>
    clear hB0
    obtain ⟨i, rfl, HK, HJ⟩ := hrel
    cases gk with
    | zero =>
      have c0 : decide (i < l.length) = false := decide_eq_false (by have := HK.out; omega)
      have c1 : decide ((i : Int) < (l.length : Int)) = false := decide_eq_false (by have := HK.out; omega)
      have hJ : Aside0 (joined (l.take i) = joined l) := ⟨by rw [List.take_of_length_le (by have := HK.out; omega)]⟩
      have b0 : 0 ≤ a1 := H0.out
      obtain ⟨J, hJJ⟩ : ∃ J, joined l = J := ⟨_, rfl⟩
      have b1 : a1 ≤ (J.size : Int) := by rw [← hJJ]; exact H1.out
      rw [hJJ] at HCut
      have hS : Aside0 (BldS w w.heap.size J wr) := ⟨by rw [← hJJ, ← hJ.out]; exact HJ.out⟩
      cases q with
      | true =>
        go_wp2_with (first
          | (go_at_call 69; (with_reducible refine (BldS.string hS.out).mono ?_); rintro e w2 ⟨rfl, hb2⟩)
          | (go_at_call 44; (with_reducible refine (rec_Cut.calls k _ cs _ HCut.out).mono ?_); rintro e w3 ⟨v3, rfl, hR3, hb3⟩; replace hb3 := Aside0.mk hb3; replace hR3 := Aside0.mk hR3; obtain ⟨A3, c3, e3⟩ := Kd.R_slice hR3.out; subst e3)
          | (go_at_call 75; refine (slices_Equal_string_string.calls k A3 c3 cs A c l true _ (Kd.R_reads' hR3.out).2.2 (Kd.R_reads' hR3.out).2.1 (Kd.C_below HR.out (hb2.out.trans (hb3.out.mono hb2.out.size))) HCc.out HEq.out).mono ?_; rintro e w' ⟨rfl, ⟨nd4, rfl⟩⟩))
        go_ret2
        exact ⟨rfl, pw_below_drewN (hb2.out.trans (hb3.out.mono hb2.out.size)) nd4⟩
      | false =>
        go_wp2_with (first
          | (go_at_call 69; (with_reducible refine (BldS.string hS.out).mono ?_); rintro e w2 ⟨rfl, hb2⟩)
          | (go_at_call 44; (with_reducible refine (rec_Cut.calls k _ cs _ HCut.out).mono ?_); rintro e w3 ⟨v3, rfl, hR3, hb3⟩; replace hb3 := Aside0.mk hb3; replace hR3 := Aside0.mk hR3; obtain ⟨A3, c3, e3⟩ := Kd.R_slice hR3.out; subst e3)
          | (go_at_call 75; refine (slices_Equal_string_string.calls k A3 c3 cs A c l false _ (Kd.R_reads' hR3.out).2.2 (Kd.R_reads' hR3.out).2.1 (Kd.C_below HR.out (hb2.out.trans (hb3.out.mono hb2.out.size))) HCc.out HEq.out).mono ?_; rintro e w' ⟨rfl, ⟨nd4, rfl⟩⟩))
        go_ret2
        exact ⟨rfl, pw_below_drewN (hb2.out.trans (hb3.out.mono hb2.out.size)) nd4⟩
    | succ k1 =>
      have hi : Aside0 (i < l.length) := ⟨by have := HK.out; omega⟩
      have c0 : decide (i < l.length) = true := decide_eq_true hi.out
      have c1 : decide ((i : Int) < (l.length : Int)) = true := decide_eq_true (by have := hi.out; omega)
      obtain ⟨ad, rfl, ha0⟩ := Kd.at_string HR.out (i : Int) (by omega) (by have := hi.out; omega)
      have ha := (HJ.out.2.cell (World.block_lt_of_cell? w _ ha0)).trans ha0
      clear ha0
      rw [Int.toNat_natCast] at ha
      obtain ⟨s, hs⟩ : ∃ s, rdOf ByteArray.empty l (i : Int) = s := ⟨_, rfl⟩
      rw [hs] at ha
      have hs2 : Aside0 (l.getD i ByteArray.empty = s) := ⟨hs⟩
      clear hs
      have hsz : s.size = 32 := by rw [← hs2.out]; exact size_of l HO.out i hi.out
      have s1 : (1 : Int) ≤ (s.size : Int) := by omega
      have s2 : 1 ≤ s.size := by omega
      have hjl : Aside0 ((joined (l.take i)).size + (s.extract 1 s.size).size ≤ 140737488355328) := ⟨by
        rw [joined_size _ (odd_false_take l i HO.out), ByteArray.size_extract, List.length_take, hsz]
        have := HL.out
        omega⟩
      have hx : 0 ≤ (i : Int) ∧ (i : Int) < (l.length : Int) := ⟨by omega, by have := hi.out; omega⟩
      have hx2 : i < l.length := hi.out
      have hw : IntKind.i64.wrap ((i : Int) + 1) = (i : Int) + 1 := by rw [IntKind.wrap_i64]; have := hi.out; have := HL.out; omega
      have hstep := Aside0.mk (joined_take l i hi.out)
      replace hsz := Aside0.mk hsz
      go_wp2_with (go_at_call 67; (with_reducible refine (BldS.text HJ.out (s.extract 1 s.size) hjl.out).mono ?_); rintro e w2 ⟨⟨m, rfl⟩, HJ2⟩)
      go_roundg k1
      case measure => omega
      case rel =>
        refine ⟨i + 1, rfl, ⟨by have := HK.out; omega⟩, ⟨?_⟩⟩
        rw [hstep.out, hs2.out]
        exact HJ2.out
end Go.Proofs.Ythoddglnfdmdeaa.P
namespace Go.Proofs.Ythoddglnfdmdeaa.P
open Go.RowKit Go.Proofs.YthoddglnfdmdeaaW.PrintWords Go.Proofs.YthoddglnfdmdeaaW.PrintLast Go.Proofs.YthoddglnfdmdeaaW.PrintMore
attribute [local go_sem] max2_int min2_int max_two min_two max_three min_three max_four min_four   -- for this text's walks alone
set_option linter.unusedVariables false
set_option linter.unusedSimpArgs false
def journal_Start.tail (k : Nat) (a0_0 a1 : Int) : Option (List S85 × Int) := (headActs k a0_0 1 a1 0 ⟨#[]⟩).bind fun y => some (y, 0)
def journal_Start.f (k : Nat) (a0_0 : Int) (a0_1 : Int) (a1 : Int) : Option ((List (S85)) × Int) := (journal_Region_Check.f a0_0 a0_1).bind fun t255 => (if t255 = true then ((journal_in.f a1 0 1073741824).bind fun t256 => (if t256 = true then (journal_Start.tail k a0_0 a1) else (some (([] : List (S85)), 1)))) else (some (([] : List (S85)), 1)))
theorem headActs.mono : ∀ a0 a1 a2 a3 a4 k, LeO (headActs k a0 a1 a2 a3 a4) (headActs (k + 1) a0 a1 a2 a3 a4) := by
 intro a0 a1 a2 a3 a4 k
 unfold headActs
 refine LeO.bind (rec_Make.mono _ _ _ _ _) (fun _ => ?_)
 exact LeO.bind (rec_Head_Text.mono _ _ _ _ _ _) (fun _ => LeO.refl _)
theorem journal_Start.mono : ∀ a0 a1 a2 k, LeO (journal_Start.f k a0 a1 a2) (journal_Start.f (k + 1) a0 a1 a2) := by
 intro a0 a1 a2 k
 unfold journal_Start.f journal_Start.tail
 repeat' first
   | (with_reducible exact LeO.refl _)
   | (with_reducible refine LeO.ite ?_ ?_)
   | (with_reducible refine LeO.bind ?_ (fun _ => ?_))
   | exact headActs.mono _ _ _ _ _ _
   | exact LeO.refl _
set_option maxHeartbeats 8000000 in
set_option maxRecDepth 100000 in
theorem journal_Start.calls (k : Nat) (a0_0 : Int) (a0_1 : Int) (a1 : Int) (r1 : List (S85)) (r2 : Int) (w : World) (h : journal_Start.f k a0_0 a0_1 a1 = some (r1, r2)) :
  Calls Try.prog 15 #[.agg #[.int .i64 a0_0, .int .i64 a0_1], .int .i64 a1] w fun e w' => ∃ v0_ : Value, e = .returned (.tuple #[v0_, .int .i64 r2]) ∧ Kd.R k85 85 w' w.heap.size (fun _ => True) v0_ r1 ∧ Below w.heap.size w w' := by
 have hu40 := Try.underlying40
 have HB := Aside0.mk (Below.refl w.heap.size w)
 have H := h
 unfold journal_Start.f at H
 clear h
 replace H := Option.bind_eq_some_iff.mp H
 obtain ⟨t255, A30, H⟩ := H
 try dsimp only at H
 have A3 := Aside0.mk A30
 clear A30
 by_cases c4 : t255 = true
 ·subst c4
  rw [if_pos rfl] at H
  replace H := Option.bind_eq_some_iff.mp H
  obtain ⟨t256, A50, H⟩ := H
  try dsimp only at H
  have A5 := Aside0.mk A50
  clear A50
  by_cases c6 : t256 = true
  ·subst c6
   rw [if_pos rfl] at H
   unfold journal_Start.tail at H
   obtain ⟨ys, hys, H⟩ := Option.bind_eq_some_iff.1 H
   obtain ⟨e1, e2⟩ := Prod.mk.inj (Option.some.inj H)
   subst e1
   subst e2
   have HY := Aside0.mk hys
   clear hys H
   go_enter Try.func15, Try.ntmps15
   go_upto_region 4 with (first | ((with_reducible refine gate_dst (N := 2) rfl ?_); refine bE (N := 2) (cs := #[.int .i64 a0_0, .int .i64 a0_1]) (t := 40) ?_; intro gb254 hg w7 hbox hb; have n0_ := wH hb; have n1_ := Aside0.mk (hbox); have n2_ := Aside0.mk ((qG hg)); have n3_ := Aside0.mk ((qG hg)); clear HB; have HB := n0_; have BK254 := n1_; have GE254 := n3_; clear n0_ n1_ n2_ n3_; clear hb hbox hg; obtain ⟨hcz8_0, hcz8_1, hfz8_0, hfz8_1⟩ := e2_ BK254) | ((with_reducible refine gate_callee (f := 28) rfl ?_); refine gL (some 8) Try.func28 #[.agg #[.int .i64 a0_0, .int .i64 a0_1]] ?_; (with_reducible refine (journal_Region_Check.calls a0_0 a0_1 true _ A3.out).mono ?_); rintro e w9 ⟨rfl, hb⟩; refine ⟨_, rfl, ?_⟩; have n0_ := wB BK254 hb; have n1_ := wH hb; clear BK254; clear HB; have BK254 := n0_; have HB := n1_; clear n0_ n1_; (try clear hb); (try clear hb2); (try clear hk); (try clear hi)) | (go_at_call 37; (with_reducible refine (journal_in.calls a1 0 1073741824 true _ A5.out).mono ?_); rintro e w' ⟨rfl, ⟨nd, rfl⟩⟩))
   obtain ⟨gb6, hg⟩ : ∃ g, g = w9.heap.size := ⟨_, rfl⟩
   obtain ⟨w6, hw6⟩ : ∃ W, W = ((w9.drewN nd).alloc (Obj.cells #[Value.slice none 0 0] 82)) := ⟨_, rfl⟩
   rw [← hw6, ← hg]
   have hb : Below w9.heap.size w9 w6 := by rw [hw6]; exact ⟨rfl, rfl, rfl, by simp [World.alloc, World.drewN], fun k hk => Below.heap_alloc (w9.drewN nd) _ k hk⟩
   have hbox : w6.heap[gb6]? = some (.cells #[.slice none 0 0] 82 (0, 0)) := by rw [hw6, hg]; exact blk_new (w9.drewN nd) _
   have GE6 := Aside0.mk (show w.heap.size ≤ gb6 from by rw [hg]; exact below_size HB.out)
   replace HB := Aside0.mk (below_step HB.out hb)
   replace BK254 := Aside0.mk (blk_below BK254.out hb)
   have BK6 := Aside0.mk hbox
   have HA := Aside0.mk (acts_first hbox)
   have HW6 := Aside0.mk (show w.heap.size ≤ w6.heap.size from below_size HB.out)
   clear hb hbox hg hw6
   (try clear hcz8_0)
   (try clear hcz8_1)
   (try clear hfz8_0)
   (try clear hfz8_1)
   have hcy_0 : _ = some (Value.int .i64 a0_0) := c0_ BK254
   have hcy_1 : _ = some (Value.int .i64 a0_1) := c1_ BK254
   have hfy_0 := xF_ BK254.out 0
   have hfy_1 := xF_ BK254.out 1
   go_wp2_with (first | (go_at_call 38; refine (acts_head k w6 gb6 _ [] ys _ _ _ _ _ _ BK6.out HA.out (by simp) HY.out).mono ?_; rintro e w8 ⟨rfl, ha⟩; rw [List.nil_append] at ha; replace HB := Aside0.mk (acts_below ha HB.out HW6.out GE6.out); obtain ⟨v, -, hvb, hvr⟩ := ha; have HR := Aside0.mk hvr; have BK8 := Aside0.mk hvb; clear hvb hvr; (try clear hcy_0); (try clear hcy_1); (try clear hfy_0); (try clear hfy_1); obtain ⟨Ao, co, eo⟩ := Kd.R_slice HR.out; subst eo; have hcx_0 := (xC_ BK8.out 0).trans (show _ = some (.slice Ao ys.length co) from rfl); have hfx_0 := xF_ BK8.out 0))
   go_ret2
   exact ⟨_, rfl, Kd.R_mono (Kd.R_lower HR.out HW6.out) (fun _ _ => trivial), HB.out⟩
  ·replace c6 := Bool.eq_false_iff.mpr c6
   subst c6
   rw [if_neg nF_] at H
   simp only [Option.some.injEq, Prod.mk.injEq] at H
   obtain ⟨rfl, rfl⟩ := H
   go_enter Try.func15, Try.ntmps15
   go_wp2_with (first | ((with_reducible refine gate_dst (N := 2) rfl ?_); refine bE (N := 2) (cs := #[.int .i64 a0_0, .int .i64 a0_1]) (t := 40) ?_; intro gb254 hg w10 hbox hb; have n0_ := wH hb; have n1_ := Aside0.mk (hbox); have n2_ := Aside0.mk ((qG hg)); have n3_ := Aside0.mk ((qG hg)); clear HB; have HB := n0_; have BK254 := n1_; have GE254 := n3_; clear n0_ n1_ n2_ n3_; clear hb hbox hg; obtain ⟨hcz11_0, hcz11_1, hfz11_0, hfz11_1⟩ := e2_ BK254) | ((with_reducible refine gate_callee (f := 28) rfl ?_); refine gL (some 8) Try.func28 #[.agg #[.int .i64 a0_0, .int .i64 a0_1]] ?_; (with_reducible refine (journal_Region_Check.calls a0_0 a0_1 true _ A3.out).mono ?_); rintro e w12 ⟨rfl, hb⟩; refine ⟨_, rfl, ?_⟩; have n0_ := wB BK254 hb; have n1_ := wH hb; clear BK254; clear HB; have BK254 := n0_; have HB := n1_; clear n0_ n1_; (try clear hb); (try clear hb2); (try clear hk); (try clear hi)) | (go_at_call 37; (with_reducible refine (journal_in.calls a1 0 1073741824 false _ A5.out).mono ?_); rintro e w' ⟨rfl, ⟨nd, rfl⟩⟩))
   go_ret2
   exact ⟨_, eX, by first | exact Kd.R_nil _ _ _ _ _ | exact Kd.N_nil _ _ _ _ _ | exact Kd.V_nil _ _ _ _ _ | exact Kd.Q_nil _ _ _ _ _ | exact Kd.S_nil _ _ _ _ _, qH⟩
 ·replace c4 := Bool.eq_false_iff.mpr c4
  subst c4
  rw [if_neg nF_] at H
  simp only [Option.some.injEq, Prod.mk.injEq] at H
  obtain ⟨rfl, rfl⟩ := H
  go_enter Try.func15, Try.ntmps15
  go_wp2_with (first | ((with_reducible refine gate_dst (N := 2) rfl ?_); refine bE (N := 2) (cs := #[.int .i64 a0_0, .int .i64 a0_1]) (t := 40) ?_; intro gb254 hg w13 hbox hb; have n0_ := wH hb; have n1_ := Aside0.mk (hbox); have n2_ := Aside0.mk ((qG hg)); have n3_ := Aside0.mk ((qG hg)); clear HB; have HB := n0_; have BK254 := n1_; have GE254 := n3_; clear n0_ n1_ n2_ n3_; clear hb hbox hg; obtain ⟨hcz14_0, hcz14_1, hfz14_0, hfz14_1⟩ := e2_ BK254) | ((with_reducible refine gate_callee (f := 28) rfl ?_); refine gL (some 8) Try.func28 #[.agg #[.int .i64 a0_0, .int .i64 a0_1]] ?_; (with_reducible refine (journal_Region_Check.calls a0_0 a0_1 false _ A3.out).mono ?_); rintro e w15 ⟨rfl, hb⟩; refine ⟨_, rfl, ?_⟩; have n0_ := wB BK254 hb; have n1_ := wH hb; clear BK254; clear HB; have BK254 := n0_; have HB := n1_; clear n0_ n1_; (try clear hb); (try clear hb2); (try clear hk); (try clear hi)))
  go_ret2
  exact ⟨_, eX, by first | exact Kd.R_nil _ _ _ _ _ | exact Kd.N_nil _ _ _ _ _ | exact Kd.V_nil _ _ _ _ _ | exact Kd.Q_nil _ _ _ _ _ | exact Kd.S_nil _ _ _ _ _, qH⟩
end Go.Proofs.Ythoddglnfdmdeaa.P
set_option linter.unusedVariables false
set_option linter.unusedSimpArgs false
namespace Go.Proofs.Ythoddglnfdmdeaa.P
open Go.RowKit Go.Proofs.YthoddglnfdmdeaaW.PrintWords Go.Proofs.YthoddglnfdmdeaaW.PrintLast Go.Proofs.YthoddglnfdmdeaaW.PrintMore
def disk_Get.f (s : List ByteArray) (c : List S29) (a : Int) : Option (ByteArray × Int) := some (getZ s c a)
theorem disk_Get.calls (A0_0 : Option Addr) (c0_0 : Nat) (l0_0 : List ByteArray) (A0_1 : Option Addr) (c0_1 : Nat) (l0_1 : List (S29)) (a1 : Int) (r1 : ByteArray) (r2 : Int) (w : World) (hr0_0 : Kd.C Kd.string w A0_0 l0_0.length l0_0) (hc0_0 : l0_0.length ≤ c0_0) (hr0_1 : Kd.C k29 w A0_1 l0_1.length l0_1) (hc0_1 : l0_1.length ≤ c0_1) (h : disk_Get.f l0_0 l0_1 a1 = some (r1, r2)) :
    Calls Try.prog 52 #[.agg #[.slice A0_0 l0_0.length c0_0, .slice A0_1 l0_1.length c0_1], .int .i64 a1] w fun e w' => e = .returned (.tuple #[.string r1, .int .i64 r2]) ∧ Below w.heap.size w w' := by
  have e := Option.some.inj h
  have h1 := get_any A0_0 c0_0 l0_0 A0_1 c0_1 l0_1 a1 w hr0_0 hc0_0 hr0_1 hc0_1
  rw [e] at h1
  exact h1
end Go.Proofs.Ythoddglnfdmdeaa.P
