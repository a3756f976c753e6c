/- lex: the words of a line: cut, take and One, walked by hand. -/
import Derived.Test.YtonjofjdmlblfaaDoorZBM0
import Derived.Test.YtonjofjdmlblfaaDoorZBQTail2
import Derived.Outline
namespace Go.Proofs.YtonjofjdmlblfaaDoor.P
open Go.RowKit Go.Proofs.YtonjofjdmlblfaaDoorW.PrintWords Go.Proofs.YtonjofjdmlblfaaDoorW.PrintLast Go.Proofs.YtonjofjdmlblfaaDoorW.PrintMore
attribute [local go_sem] max2_int min2_int max_two min_two max_three min_three max_four min_four
set_option linter.unusedVariables false
set_option linter.unusedSimpArgs false
theorem name_world {P : Program} {c : Code} {Q : Exit → Act → World → Prop} {a : Act} {W : World} (φ : World → Prop) (F : φ W) (h : ∀ W1, φ W1 → c.wp P Q a W1) : c.wp P Q a W := h W F
theorem info47 : (Tryd.prog.info? 47).map (fun i => (i.zero, i.size, i.bytes)) = some (some (.agg #[(.string ⟨#[]⟩), (.int .i64 0)]), 2, 24) := by kernel_rfl
/-- A lexer in a block of its own: the words so far, the remark, the line, where a word begins. -/
def LexSt (w0 : World) (g : Nat) (s : ByteArray) (ws : List S47) (note : ByteArray) (f : Int) (w : World) : Prop :=
  ∃ v, w.heap[g]? = some (.cells #[v, .string note, .string s, .int .i64 f] 54 (0, 0)) ∧ Kd.R k47 47 w w0.heap.size (fun _ => True) v ws ∧ Below w0.heap.size w0 w ∧ w0.heap.size ≤ g
def LexV (w0 : World) (g : Nat) (v : Value) (s : ByteArray) (ws : List S47) (note : ByteArray) (f : Int) (w : World) : Prop :=
  w.heap[g]? = some (.cells #[v, .string note, .string s, .int .i64 f] 54 (0, 0)) ∧ Kd.R k47 47 w w0.heap.size (fun _ => True) v ws ∧ Below w0.heap.size w0 w ∧ w0.heap.size ≤ g
def cutW (s : ByteArray) (ws : List S47) (f at_ : Int) : List S47 := if 0 ≤ f then ws ++ [⟨s.extract f.toNat at_.toNat, f⟩] else ws
set_option maxHeartbeats 8000000 in
set_option maxRecDepth 100000 in
theorem cut_neg {w0 w : World} {g : Nat} {s note : ByteArray} {ws : List S47} {f : Int} (h : LexSt w0 g s ws note f w) (at_ : Int) (hf : f < 0) :
    Calls Tryd.prog 21 #[.pointer (some ⟨g, 0, none⟩), .int .i64 at_] w fun e w' => e = .returned (.tuple #[]) ∧ Aside0 (LexSt w0 g s ws note (-1) w') := by
  obtain ⟨v, hb, hr, hbl, hg⟩ := h
  have c3 : w.cell? ⟨g, 3, none⟩ = some (.int .i64 f) := blk_cell hb 3
  have f3 : w.frozen? ⟨g, 3, none⟩ = false := blk_frozen hb 3
  have d0 : decide (0 ≤ f) = false := decide_eq_false (by omega)
  have HB := Aside0.mk hb
  have HR := Aside0.mk hr
  have HL := Aside0.mk hbl
  have HG := Aside0.mk hg
  clear hb hr hbl hg hf
  go_enter Tryd.func21, Tryd.ntmps21
  go_wp2
  go_end0
  refine ⟨rfl, ⟨v, ?_, Kd.R_set HR.out HB.out (by decide) 3 _, HL.out.setCell HG.out _, HG.out⟩⟩
  exact (blk_set HB.out 3 _).trans rfl
set_option maxHeartbeats 8000000 in
set_option maxRecDepth 100000 in
theorem cut_pos {w0 w : World} {g : Nat} {s note : ByteArray} {ws : List S47} {f : Int} (h : LexSt w0 g s ws note f w) (at_ : Int) (hf : 0 ≤ f) (ha : f ≤ at_) (hs : at_ ≤ s.size) (hl : ws.length ≤ 1000000000) :
    Calls Tryd.prog 21 #[.pointer (some ⟨g, 0, none⟩), .int .i64 at_] w fun e w' => e = .returned (.tuple #[]) ∧ Aside0 (LexSt w0 g s (ws ++ [⟨s.extract f.toNat at_.toNat, f⟩]) note (-1) w') := by
  obtain ⟨v, hb, hr, hbl, hg⟩ := h
  have c0 : w.cell? ⟨g, 0, none⟩ = some v := blk_cell hb 0
  have c2 : w.cell? ⟨g, 2, none⟩ = some (.string s) := blk_cell hb 2
  have c3 : w.cell? ⟨g, 3, none⟩ = some (.int .i64 f) := blk_cell hb 3
  have f0 : w.frozen? ⟨g, 0, none⟩ = false := blk_frozen hb 0
  have f3 : w.frozen? ⟨g, 3, none⟩ = false := blk_frozen hb 3
  have d0 : decide (0 ≤ f) = true := decide_eq_true hf
  have HB := Aside0.mk hb
  have HR := Aside0.mk hr
  have HL := Aside0.mk hbl
  have HG := Aside0.mk hg
  have HN := Aside0.mk hl
  clear hb hr hbl hg hl
  go_enter Tryd.func21, Tryd.ntmps21
  go_upto_region 1 with (fail)
  refine Q.wp_held_tail (LexV w0 g v s ws note f) 22 (by kernel_rfl) (by kernel_rfl) (v := ?_) rfl (fun d _ _ _ _ h => by cases d <;> exact h) (Or.inl ⟨by rfl, ?_⟩) ⟨blk_drew HB.out, Kd.R_drew HR.out, HL.out.drew, HG.out⟩ rfl ?_
  rotate_left
  · intro w; go_simp; (try (with_reducible rfl))
  simp only [List.take_succ_cons, List.take_zero, List.drop_succ_cons, List.drop_zero, Act.put, List.setIfInBounds_toArray, List.set_cons_zero, List.set_cons_succ]
  repeat (refine Q.held_cons (v := ?_) (Or.inl ⟨by rfl, ?_⟩) ?_; rotate_left; (focus (intro W hW; have c0 : W.cell? ⟨g, 0, none⟩ = some v := blk_cell hW.1 0; have c2 : W.cell? ⟨g, 2, none⟩ = some (.string s) := blk_cell hW.1 2; have c3 : W.cell? ⟨g, 3, none⟩ = some (.int .i64 f) := blk_cell hW.1 3; go_simp; try with_reducible rfl)); (simp only [Act.put, List.setIfInBounds_toArray, List.set_cons_zero, List.set_cons_succ]))
  refine Q.held_nil ?_
  clear c0 c2 c3 f0 f3 HB HR HL
  intro W hW
  refine ⟨?_, ?_, by rfl, ?_, ?_, ?_⟩
  rotate_left 2
  · go_simp
    refine ⟨?_, ?_⟩ <;> with_reducible rfl
  · exact ⟨blk_alloc hW.1 _, Kd.R_alloc hW.2.1 _, hW.2.2.1.alloc (hW.2.2.1.size) _, hW.2.2.2⟩
  simp only [Act.put, List.setIfInBounds_toArray, List.set_cons_zero, List.set_cons_succ]
  go_wp2_with ((with_reducible refine gate_builtin (b := .append) (xs := #[.tmp 14, .tmp 30]) rfl ?_); at_builtin; refine Kd.R_append k47 (w0 := w0) w0.heap.size rfl (.tmp 14) (.tmp 30) 23 47 (.agg #[(.string ⟨#[]⟩), (.int .i64 0)]) 24 rfl Tryd.underlying23 info47 rfl (by decide) (by omega) v ws (⟨s.extract f.toNat at_.toNat, f⟩ : S47) [.string (s.extract f.toNat at_.toNat), .int .i64 f] (fun _ => True) (fun _ => False) rfl rfl ?aP (fun _ hk => hk.elim) ?aF ?aO ?aB ?aS ?aL ?_; (case aP => exact k47_mkM _ _ _ (⟨s.extract f.toNat at_.toNat, f⟩ : S47)); (case aB => exact hW.2.2.1); (case aF => exact (fun _ _ => trivial)); (case aO => exact hW.2.1); (case aS => exact hW.2.2.1.size); (case aL => have := HN.out; omega); intro v1 w1 ho hb hg hat; have HB1 := Aside0.mk (blk_grown hW.1 hg (Kd.R_ne hW.2.1 hW.1 (by decide))); have HR1 := Aside0.mk ho; have HL1 := Aside0.mk hb; have c0 : w1.cell? ⟨g, 0, none⟩ = some v := blk_cell HB1.out 0; have c3 : w1.cell? ⟨g, 3, none⟩ = some (.int .i64 f) := blk_cell HB1.out 3; have f0 : w1.frozen? ⟨g, 0, none⟩ = false := blk_frozen HB1.out 0; have f3 : w1.frozen? ⟨g, 3, none⟩ = false := blk_frozen HB1.out 3; clear hb hg hat; obtain ⟨A1, q1, e1⟩ := Kd.R_slice ho; subst e1; clear ho)
  go_end0
  refine ⟨rfl, ⟨.slice A1 _ q1, ?_, Kd.R_set (Kd.R_set HR1.out HB1.out (by decide) 0 _) (blk_set HB1.out 0 _) (by decide) 3 _, (HL1.out.setCell HG.out _).setCell HG.out _, HG.out⟩⟩
  exact (blk_set (blk_set HB1.out 0 _) 3 _).trans (by rw [List.length_append]; rfl)
end Go.Proofs.YtonjofjdmlblfaaDoor.P
