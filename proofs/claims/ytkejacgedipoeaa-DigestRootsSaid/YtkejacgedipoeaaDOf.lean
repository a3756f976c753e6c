/- digest.Of, walked by hand. -/
import Derived.Test.YtkejacgedipoeaaDPad
namespace Go.Proofs.Ytkejacgedipoeaa.P
open Go.RowKit Go.Shelf Go.Proofs.YtkejacgedipoeaaW.PrintWords Go.Proofs.YtkejacgedipoeaaW.PrintLast Go.Proofs.YtkejacgedipoeaaW.PrintMore Go.Proofs.Ytkejacgedipoeaa.Pl
set_option linter.unusedVariables false
set_option linter.unusedSimpArgs false
def startV : V8 := ⟨1779033703, 3144134277, 1013904242, 2773480762, 1359893119, 2600822924, 528734635, 1541459225⟩
theorem startV_list : startV.list = hList := rfl
/-- The i-th block of a text. -/
def blk (t : ByteArray) (i : Nat) : ByteArray := t.extract (64 * i) (64 * i + 64)
def ofV (t : ByteArray) : Nat → V8
  | 0 => startV
  | i + 1 => rolledV (ofV t i) (blk t i)
def padded (s : ByteArray) : ByteArray := s ++ strOfNums (padTo (s.size : Int) 8)
def digest_Of.f (a0 : ByteArray) : Option ByteArray := if a0.size ≤ 1099511627776 then some (strOfNums (bytesTo (ofV (padded a0) ((padded a0).size / 64)).list 8)) else none
theorem strOfNums_size (l : List Int) : (strOfNums l).size = l.length := by simp [strOfNums, ByteArray.size]
theorem padded_size (s : ByteArray) : (padded s).size = 64 * ((s.size + 9 + zeroCount (s.size : Int)) / 64) ∧ (padded s).size = s.size + 9 + zeroCount (s.size : Int) := by
  have h1 : (padded s).size = s.size + 9 + zeroCount (s.size : Int) := by
    unfold padded
    rw [ByteArray.size_append, strOfNums_size, padTo_length]; omega
  refine ⟨?_, h1⟩
  rw [h1]
  unfold zeroCount
  omega
/-- What is left of a text behind i blocks. -/
def rest (t : ByteArray) (i : Nat) : ByteArray := t.extract (64 * i) t.size
theorem rest_size (t : ByteArray) (i : Nat) : (rest t i).size = t.size - 64 * i := by unfold rest; rw [ByteArray.size_extract]; omega
theorem rest_zero (t : ByteArray) : rest t 0 = t := by unfold rest; rw [Nat.mul_zero]; exact ByteArray.extract_zero_size
theorem rest_succ (t : ByteArray) (i : Nat) (h : 64 * i + 64 ≤ t.size) : (rest t i).extract 64 (rest t i).size = rest t (i + 1) := by
  rw [rest_size]
  unfold rest
  rw [ByteArray.extract_extract]
  congr 1
  omega
theorem rest_blk (t : ByteArray) (i : Nat) (h : 64 * i + 64 ≤ t.size) : (rest t i).extract 0 64 = blk t i := by
  unfold rest blk
  rw [ByteArray.extract_extract]
  congr 1
  omega
theorem blk_size (t : ByteArray) (i : Nat) (h : 64 * i + 64 ≤ t.size) : (blk t i).size = 64 := by unfold blk; rw [ByteArray.size_extract]; omega
theorem roll_lit (h : V8) (b : ByteArray) (hb : b.size = 64) (W : World) : ∃ vr, Aside0 (vr = Value.agg (u32s (rolledV h b).list)) ∧ Calls Try.prog 23 #[.agg #[.int .u32 h.a, .int .u32 h.b, .int .u32 h.c, .int .u32 h.d, .int .u32 h.e, .int .u32 h.f, .int .u32 h.g, .int .u32 h.z], .string b] W fun e w' => e = .returned vr ∧ Aside0 (Below W.heap.size W w') :=
  ⟨_, ⟨rfl⟩, (roll_calls h b W ⟨fun i hi => word_some b i (by omega) (by omega)⟩).mono fun _ _ ⟨h1, h2⟩ => ⟨h1, ⟨h2⟩⟩⟩
set_option maxHeartbeats 8000000 in
set_option maxRecDepth 100000 in
theorem of_core (s T p : ByteArray) (m : Nat) (w : World) (hpad : Aside0 (∀ W, Calls Try.prog 15 #[.int .i64 (s.size : Int)] W fun e w' => e = .returned (.string p) ∧ Aside0 (Below W.heap.size W w')))
    (hT : Aside0 (s ++ p = T)) (hTm : Aside0 (T.size = 64 * m)) (hsz : s.size + p.size ≤ 9223372036854775807) : Calls Try.prog 11 #[.string s] w fun e w' => e = .returned (.string (strOfNums (bytesTo (ofV T m).list 8))) ∧ Below w.heap.size w w' := by
  obtain ⟨vh, hvh⟩ : ∃ v, v = Value.agg (u32s hList) := ⟨_, rfl⟩
  have hstarts : ∀ W, Calls Try.prog 26 #[] W fun e w' => e = .returned vh ∧ Aside0 (Below W.heap.size W w') := fun W => by
    rw [hvh]; exact (starts_calls W).mono fun _ _ ⟨h1, h2⟩ => ⟨h1, ⟨h2⟩⟩
  replace hvh := Aside0.mk hvh
  replace hstarts := Aside0.mk hstarts
  go_enter Try.func11, Try.ntmps11
  go_wp2_with (first
    | (go_at_call 26; (with_reducible refine (hstarts.out _).mono ?_); rintro e w2 ⟨rfl, hb2⟩)
    | ((with_reducible refine gate_dst (N := 3) rfl ?_); refine step_alloc 3 rfl rfl 37 rfl (zerosL 8) zero37 ?_; intro g hg w3 hr3 hb3 hs3)
    | ((with_reducible refine gate_store (t := 37) (p := 3) rfl ?_); refine step_store rfl rfl 37 (.tmp 3) (.tmp 5) rfl g (zerosL 8) hList rfl hvh.out hr3.out rfl size37 ?_; intro w4 hr4 hb4 ho4 hs4)
    | (go_at_call 15; (with_reducible refine (hpad.out _).mono ?_); rintro e w5 ⟨rfl, hb5⟩))
  have G : Aside0 (w.heap.size ≤ g) := ⟨by have := hg.out; have := hb2.out.size; omega⟩
  have R : Aside0 (URow w5 g 37 (ofV T 0).list) := ⟨hr4.out.below hb5.out (by have := hs4.out; have := hs3.out; have := hg.out; omega)⟩
  have HB : Aside0 (Below w.heap.size w w5) := ⟨((hb2.out.trans (hb3.out.mono hb2.out.size)).trans (hb4.out.mono G.out)).trans (hb5.out.mono (by have := hs4.out; have := hs3.out; have := hg.out; have := G.out; omega))⟩
  have GL : Aside0 (g < w5.heap.size) := ⟨R.out.lt⟩
  clear hb2 hr3 hb3 hs3 hr4 hb4 ho4 hs4 hb5 hg hpad hstarts hsz
  obtain ⟨u, hu⟩ : ∃ u, s ++ p = u := ⟨_, rfl⟩
  have hu0 : Aside0 (u = rest T 0) := ⟨by rw [← hu, hT.out, rest_zero]⟩
  rw [hu]
  clear hu hT
  go_loopg [4] m (fun kq v4 w' => ∃ (i : Nat) (t : ByteArray), v4 = .string t ∧ Aside0 (t = rest T i) ∧ Aside0 (kq + i = m) ∧ Aside0 (URow w' g 37 (ofV T i).list) ∧ Aside0 (Below w.heap.size w w') ∧ Aside0 (g < w'.heap.size))
  case atStart => exact ⟨0, u, rfl, hu0, ⟨rfl⟩, R, HB, GL⟩
  case round =>
    clear R HB GL hu0
    obtain ⟨i, t, rfl, HT, HK, R, HB, GL⟩ := hrel
    have hts : t.size = T.size - 64 * i := by rw [HT.out, rest_size]
    cases gk with
    | zero =>
      have hi : i = m := by have := HK.out; omega
      have ht0 : t = ⟨#[]⟩ := by
        apply ByteArray.ext
        apply Array.eq_empty_of_size_eq_zero
        have := hTm.out
        have h2 : t.size = 0 := by omega
        exact h2
      subst ht0
      subst hi
      obtain ⟨v, hv⟩ : ∃ v, v = Value.agg (u32s (ofV T i).list) := ⟨_, rfl⟩
      have hby : ∀ W, Calls Try.prog 22 #[v] W fun e w' => e = .returned (.string (strOfNums (bytesTo (ofV T i).list 8))) ∧ Aside0 (Below W.heap.size W w') := fun W => by
        rw [hv]; exact (bytes_calls _ W).mono fun _ _ ⟨h1, h2⟩ => ⟨h1, ⟨h2⟩⟩
      replace hby := Aside0.mk hby
      replace hv := Aside0.mk hv
      clear hts
      go_wp2_with (first
        | ((with_reducible refine gate_dst (N := 19) rfl ?_); refine step_load 19 rfl rfl 37 (.tmp 3) rfl g (ofV T i).list rfl R.out _ Try.underlying37 rfl size37 ?_; rw [← hv.out])
        | (go_at_call 22; (with_reducible refine (hby.out _).mono ?_); rintro e w6 ⟨rfl, hb6⟩))
      go_ret
      exact ⟨rfl, HB.out.trans (hb6.out.mono HB.out.size)⟩
    | succ k1 =>
      have hge : 64 * i + 64 ≤ T.size := by have := hTm.out; have := HK.out; omega
      have ht64 : 64 ≤ t.size := by omega
      have hne : t.toList ≠ [] := by
        rw [ByteArray.toList_eq]
        intro h
        have h2 : t.size = 0 := by show t.data.size = 0; rw [← Array.length_toList, h]; rfl
        omega
      have n1 : (t.toList == []) = false := by cases h : t.toList with | nil => exact absurd h hne | cons a b => rfl
      have n2 : t.toList.isEmpty = false := by cases h : t.toList with | nil => exact absurd h hne | cons a b => rfl
      have n3 : (t.toList = []) = False := eq_false hne
      have x1 : t.extract 0 64 = blk T i := by rw [HT.out]; exact rest_blk T i hge
      have x2 : t.extract 64 t.size = rest T (i + 1) := by rw [HT.out]; exact rest_succ T i hge
      have x3 : (blk T i).size = 64 := blk_size T i hge
      have c64 : (64 : Int) ≤ (t.size : Int) := by omega
      clear hne hts hge
      replace x2 := Aside0.mk x2
      replace x3 := Aside0.mk x3
      obtain ⟨y, hy⟩ : ∃ y, ofV T i = y := ⟨_, rfl⟩
      rw [hy] at R
      replace hy := Aside0.mk hy
      have e0 : wr.cell? ⟨g, 0, none⟩ = some (.int .u32 y.a) := R.out.cell 0 (by simp [V8.list])
      have e1 : wr.cell? ⟨g, 1, none⟩ = some (.int .u32 y.b) := R.out.cell 1 (by simp [V8.list])
      have e2 : wr.cell? ⟨g, 2, none⟩ = some (.int .u32 y.c) := R.out.cell 2 (by simp [V8.list])
      have e3 : wr.cell? ⟨g, 3, none⟩ = some (.int .u32 y.d) := R.out.cell 3 (by simp [V8.list])
      have e4 : wr.cell? ⟨g, 4, none⟩ = some (.int .u32 y.e) := R.out.cell 4 (by simp [V8.list])
      have e5 : wr.cell? ⟨g, 5, none⟩ = some (.int .u32 y.f) := R.out.cell 5 (by simp [V8.list])
      have e6 : wr.cell? ⟨g, 6, none⟩ = some (.int .u32 y.g) := R.out.cell 6 (by simp [V8.list])
      have e7 : wr.cell? ⟨g, 7, none⟩ = some (.int .u32 y.z) := R.out.cell 7 (by simp [V8.list])
      go_wp2_with fail
      refine Q.wp_quiet_tail 3 (by kernel_rfl) (by kernel_rfl) ?_
      simp only [List.take_succ_cons, List.take_zero, List.drop_succ_cons, List.drop_zero]
      repeat (quiet_step (fail))
      refine wpQuiet_nil ?_
      intro _ hw'
      obtain ⟨nq, hw''⟩ := hw'
      subst hw''
      have R' := Aside0.mk (R.out.drewN nq)
      have HB' := Aside0.mk (pw_below_drewN HB.out nq)
      have GL' : Aside0 (g < (wr.drewN nq).heap.size) := ⟨GL.out⟩
      clear e0 e1 e2 e3 e4 e5 e6 e7 R HB GL
      generalize wr.drewN nq = wq at *
      obtain ⟨vr, hvr, hrl⟩ := roll_lit y (blk T i) x3.out wq
      replace hrl := Aside0.mk hrl
      go_wp2_with (first
        | (go_at_call 23; (with_reducible refine hrl.out.mono ?_); rintro e w6 ⟨rfl, hb6⟩)
        | ((with_reducible refine gate_store (t := 37) (p := 3) rfl ?_); refine step_store rfl rfl 37 (.tmp 3) (.tmp 18) rfl g y.list (rolledV y (blk T i)).list rfl hvr.out (R'.out.below hb6.out GL'.out) rfl size37 ?_; intro w7 hr7 hb7 ho7 hs7))
      go_roundg k1
      case measure => omega
      case rel =>
        refine ⟨i + 1, rest T (i + 1), ?_, ⟨rfl⟩, ⟨by have := HK.out; omega⟩, ⟨?_⟩, ⟨(HB'.out.trans (hb6.out.mono HB'.out.size)).trans (hb7.out.mono G.out)⟩, ⟨by have := hs7.out; have := hb6.out.size; have := GL'.out; omega⟩⟩
        · rw [← x2.out]
        · rw [ofV, hy.out]; exact hr7.out
theorem of_walk (s : ByteArray) (w : World) (hs : s.size ≤ 1099511627776) : Calls Try.prog 11 #[.string s] w fun e w' => e = .returned (.string (strOfNums (bytesTo (ofV (padded s) ((padded s).size / 64)).list 8))) ∧ Below w.heap.size w w' := by
  have h1 := padded_size s
  refine of_core s (padded s) (strOfNums (padTo (s.size : Int) 8)) _ w ⟨fun W => (pad_yes (s.size : Int) W (by omega) (by omega)).mono fun _ _ ⟨h1, h2⟩ => ⟨h1, ⟨h2⟩⟩⟩ ⟨rfl⟩ ⟨by omega⟩ ?_
  rw [strOfNums_size, padTo_length]
  have := zeroCount_lt (s.size : Int)
  omega
theorem digest_Of.calls (a0 : ByteArray) (r : ByteArray) (w : World) (h : digest_Of.f a0 = some r) :
    Calls Try.prog 11 #[.string a0] w fun e w' => e = .returned (.string r) ∧ Below w.heap.size w w' := by
  unfold digest_Of.f at h
  by_cases c : a0.size ≤ 1099511627776
  · rw [if_pos c] at h
    obtain rfl := Option.some.inj h
    exact of_walk a0 w c
  · rw [if_neg c] at h
    cases h
end Go.Proofs.Ytkejacgedipoeaa.P
