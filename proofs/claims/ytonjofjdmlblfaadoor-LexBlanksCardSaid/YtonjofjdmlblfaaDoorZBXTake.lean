/- lex: take, walked by hand (lines printed by gen_take.py). -/
import Derived.Test.YtonjofjdmlblfaaDoorZBXLex
import Derived.Test.YtonjofjdmlblfaaDoorZBXPre
namespace Go.Proofs.YtonjofjdmlblfaaDoor.P
open Go.RowKit Go.Proofs.YtonjofjdmlblfaaDoorW.PrintWords Go.Proofs.YtonjofjdmlblfaaDoorW.PrintLast Go.Proofs.YtonjofjdmlblfaaDoorW.PrintMore
attribute [local go_sem] max2_int min2_int max_two min_two max_three min_three max_four min_four
set_option linter.unusedVariables false
set_option linter.unusedSimpArgs false
theorem cut_any {w0 w : World} {g : Nat} {s note : ByteArray} {ws : List S47} {f : Int} (h : LexSt w0 g s ws note f w) (at_ : Int) (hf : f < 0 ∨ (0 ≤ f ∧ f ≤ at_)) (hs : at_ ≤ s.size) (hl : ws.length ≤ 1000000000) :
    Calls Tryd.prog 21 #[.pointer (some ⟨g, 0, none⟩), .int .i64 at_] w fun e w' => e = .returned (.tuple #[]) ∧ Aside0 (LexSt w0 g s (cutW s ws f at_) note (-1) w') := by
  rcases hf with hf | ⟨h0, h1⟩
  · rw [cutW, if_neg (by omega)]; exact cut_neg h at_ hf
  · rw [cutW, if_pos h0]; exact cut_pos h at_ h0 h1 hs hl
theorem LexSt.drewN {w0 w : World} {g : Nat} {s note : ByteArray} {ws : List S47} {f : Int} (h : LexSt w0 g s ws note f w) (n : Nat) : LexSt w0 g s ws note f (w.drewN n) := by
  obtain ⟨v, hb, hr, hbl, hg⟩ := h
  exact ⟨v, blk_drewN hb n, Kd.R_drewN hr n, pw_below_drewN hbl n, hg⟩
theorem LexSt.setFrom {w0 w : World} {g : Nat} {s note : ByteArray} {ws : List S47} {f : Int} (h : LexSt w0 g s ws note f w) (n : Int) : LexSt w0 g s ws note n (w.setCell ⟨g, 3, none⟩ (.int .i64 n)) := by
  obtain ⟨v, hb, hr, hbl, hg⟩ := h
  exact ⟨v, (blk_set hb 3 _).trans rfl, Kd.R_set hr hb (by decide) 3 _, hbl.setCell hg _, hg⟩
theorem LexSt.setNote {w0 w : World} {g : Nat} {s note : ByteArray} {ws : List S47} {f : Int} (h : LexSt w0 g s ws note f w) (n : ByteArray) : LexSt w0 g s ws n f (w.setCell ⟨g, 1, none⟩ (.string n)) := by
  obtain ⟨v, hb, hr, hbl, hg⟩ := h
  exact ⟨v, (blk_set hb 1 _).trans rfl, Kd.R_set hr hb (by decide) 1 _, hbl.setCell hg _, hg⟩
theorem cutW_le (s : ByteArray) (ws : List S47) (f a : Int) : (cutW s ws f a).length ≤ ws.length + 1 := by
  unfold cutW; split <;> simp
set_option maxHeartbeats 8000000 in
set_option maxRecDepth 100000 in
/-- A remark begins: the line's rest is kept. -/
theorem take_note {w0 w : World} {g : Nat} {s note : ByteArray} {ws : List S47} {f : Int} (h : LexSt w0 g s ws note f w) (i : Nat) (hi : i < s.size) (hf : f < 0) (hp : strings_HasPrefix.f (s.extract i s.size) ⟨#[47, 47]⟩ = some true) :
    Calls Tryd.prog 20 #[.pointer (some ⟨g, 0, none⟩), .int .i64 (i : Int)] w fun e w' => e = .returned (.bool false) ∧ Aside0 (LexSt w0 g s ws (s.extract i s.size) f w') := by
  have HH := Aside0.mk h
  obtain ⟨v, hb, hr, hbl, hg⟩ := h
  have c0 : w.cell? ⟨g, 0, none⟩ = some v := blk_cell hb 0
  have c1 : w.cell? ⟨g, 1, none⟩ = some (.string note) := blk_cell hb 1
  have c2 : w.cell? ⟨g, 2, none⟩ = some (.string s) := blk_cell hb 2
  have c3 : w.cell? ⟨g, 3, none⟩ = some (.int .i64 f) := blk_cell hb 3
  have f1 : w.frozen? ⟨g, 1, none⟩ = false := blk_frozen hb 1
  have f3 : w.frozen? ⟨g, 3, none⟩ = false := blk_frozen hb 3
  have hi' : (i : Int) ≤ (s.size : Int) := by omega
  have hi2 : (i : Int) < (s.size : Int) := by omega
  have hi0 : (0 : Int) ≤ (i : Int) := by omega
  have HG := Aside0.mk hg
  clear hb hr hbl hg
  have d0 : decide (f < 0) = true := decide_eq_true hf
  have HP := Aside0.mk hp
  clear hp hf
  go_enter Tryd.func20, Tryd.ntmps20
  go_wp2_with (first
    | (go_at_call 28; (with_reducible refine (strings_HasPrefix.calls (s.extract i s.size) ⟨#[47, 47]⟩ true _ HP.out).mono ?_); rintro e w' ⟨rfl, ⟨nd, rfl⟩⟩))
  go_ret
  exact ⟨rfl, ⟨(HH.out.drewN nd).setNote _⟩⟩
set_option maxHeartbeats 8000000 in
set_option maxRecDepth 100000 in
theorem take_other0 {w0 w : World} {g : Nat} {s note : ByteArray} {ws : List S47} {f : Int} (h : LexSt w0 g s ws note f w) (i : Nat) (hi : i < s.size) (hf : f < 0) (hp : strings_HasPrefix.f (s.extract i s.size) ⟨#[47, 47]⟩ = some false) (hx : ∀ c ∈ [40, 41, 91, 93, 44, 32, 9], ((s[i]).toNat : Int) ≠ c) :
    Calls Tryd.prog 20 #[.pointer (some ⟨g, 0, none⟩), .int .i64 (i : Int)] w fun e w' => e = .returned (.bool true) ∧ Aside0 (LexSt w0 g s ws note (i : Int) w') := by
  have HH := Aside0.mk h
  obtain ⟨v, hb, hr, hbl, hg⟩ := h
  have c0 : w.cell? ⟨g, 0, none⟩ = some v := blk_cell hb 0
  have c1 : w.cell? ⟨g, 1, none⟩ = some (.string note) := blk_cell hb 1
  have c2 : w.cell? ⟨g, 2, none⟩ = some (.string s) := blk_cell hb 2
  have c3 : w.cell? ⟨g, 3, none⟩ = some (.int .i64 f) := blk_cell hb 3
  have f1 : w.frozen? ⟨g, 1, none⟩ = false := blk_frozen hb 1
  have f3 : w.frozen? ⟨g, 3, none⟩ = false := blk_frozen hb 3
  have hi' : (i : Int) ≤ (s.size : Int) := by omega
  have hi2 : (i : Int) < (s.size : Int) := by omega
  have hi0 : (0 : Int) ≤ (i : Int) := by omega
  have HG := Aside0.mk hg
  clear hb hr hbl hg
  have d0 : decide (f < 0) = true := decide_eq_true hf
  have HP := Aside0.mk hp
  have HF : Aside0 (f < 0 ∨ (0 ≤ f ∧ f ≤ (i : Int))) := ⟨.inl hf⟩
  clear hp hf
  have e40 : (((s[i]).toNat : Int) == 40) = false := beq_eq_false_iff_ne.2 (hx _ (by simp))
  have e41 : (((s[i]).toNat : Int) == 41) = false := beq_eq_false_iff_ne.2 (hx _ (by simp))
  have e91 : (((s[i]).toNat : Int) == 91) = false := beq_eq_false_iff_ne.2 (hx _ (by simp))
  have e93 : (((s[i]).toNat : Int) == 93) = false := beq_eq_false_iff_ne.2 (hx _ (by simp))
  have e44 : (((s[i]).toNat : Int) == 44) = false := beq_eq_false_iff_ne.2 (hx _ (by simp))
  have e32 : (((s[i]).toNat : Int) == 32) = false := beq_eq_false_iff_ne.2 (hx _ (by simp))
  have e9 : (((s[i]).toNat : Int) == 9) = false := beq_eq_false_iff_ne.2 (hx _ (by simp))
  clear hx
  go_enter Tryd.func20, Tryd.ntmps20
  go_wp2_with (first
    | (go_at_call 28; (with_reducible refine (strings_HasPrefix.calls (s.extract i s.size) ⟨#[47, 47]⟩ false _ HP.out).mono ?_); rintro e w' ⟨rfl, ⟨nd, rfl⟩⟩))
  go_ret
  exact ⟨rfl, ⟨(HH.out.drewN nd).setFrom _⟩⟩
set_option maxHeartbeats 8000000 in
set_option maxRecDepth 100000 in
theorem take_blank0_32 {w0 w : World} {g : Nat} {s note : ByteArray} {ws : List S47} {f : Int} (h : LexSt w0 g s ws note f w) (i : Nat) (hi : i < s.size) (hf : f < 0) (hp : strings_HasPrefix.f (s.extract i s.size) ⟨#[47, 47]⟩ = some false) (hx : ((s[i]).toNat : Int) = 32) (hl : ws.length ≤ 1000000000) :
    Calls Tryd.prog 20 #[.pointer (some ⟨g, 0, none⟩), .int .i64 (i : Int)] w fun e w' => e = .returned (.bool true) ∧ Aside0 (LexSt w0 g s (cutW s ws f i) note (-1) w') := by
  have HH := Aside0.mk h
  obtain ⟨v, hb, hr, hbl, hg⟩ := h
  have c0 : w.cell? ⟨g, 0, none⟩ = some v := blk_cell hb 0
  have c1 : w.cell? ⟨g, 1, none⟩ = some (.string note) := blk_cell hb 1
  have c2 : w.cell? ⟨g, 2, none⟩ = some (.string s) := blk_cell hb 2
  have c3 : w.cell? ⟨g, 3, none⟩ = some (.int .i64 f) := blk_cell hb 3
  have f1 : w.frozen? ⟨g, 1, none⟩ = false := blk_frozen hb 1
  have f3 : w.frozen? ⟨g, 3, none⟩ = false := blk_frozen hb 3
  have hi' : (i : Int) ≤ (s.size : Int) := by omega
  have hi2 : (i : Int) < (s.size : Int) := by omega
  have hi0 : (0 : Int) ≤ (i : Int) := by omega
  have HG := Aside0.mk hg
  clear hb hr hbl hg
  have d0 : decide (f < 0) = true := decide_eq_true hf
  have HP := Aside0.mk hp
  have HF : Aside0 (f < 0 ∨ (0 ≤ f ∧ f ≤ (i : Int))) := ⟨.inl hf⟩
  clear hp hf
  have HN := Aside0.mk hl
  clear hl
  have e40 : (((s[i]).toNat : Int) == 40) = false := by rw [hx]; decide
  have e41 : (((s[i]).toNat : Int) == 41) = false := by rw [hx]; decide
  have e91 : (((s[i]).toNat : Int) == 91) = false := by rw [hx]; decide
  have e93 : (((s[i]).toNat : Int) == 93) = false := by rw [hx]; decide
  have e44 : (((s[i]).toNat : Int) == 44) = false := by rw [hx]; decide
  have e32 : (((s[i]).toNat : Int) == 32) = true := by rw [hx]; decide
  have e9 : (((s[i]).toNat : Int) == 9) = false := by rw [hx]; decide
  clear hx
  go_enter Tryd.func20, Tryd.ntmps20
  go_wp2_with (first
    | (go_at_call 28; (with_reducible refine (strings_HasPrefix.calls (s.extract i s.size) ⟨#[47, 47]⟩ false _ HP.out).mono ?_); rintro e w' ⟨rfl, ⟨nd, rfl⟩⟩) | (go_at_call 21; (with_reducible refine (cut_any (HH.out.drewN nd) (i : Int) HF.out (by omega) HN.out).mono ?_); rintro e w' ⟨rfl, HC⟩))
  go_ret
  exact ⟨rfl, HC⟩
set_option maxHeartbeats 8000000 in
set_option maxRecDepth 100000 in
theorem take_blank0_9 {w0 w : World} {g : Nat} {s note : ByteArray} {ws : List S47} {f : Int} (h : LexSt w0 g s ws note f w) (i : Nat) (hi : i < s.size) (hf : f < 0) (hp : strings_HasPrefix.f (s.extract i s.size) ⟨#[47, 47]⟩ = some false) (hx : ((s[i]).toNat : Int) = 9) (hl : ws.length ≤ 1000000000) :
    Calls Tryd.prog 20 #[.pointer (some ⟨g, 0, none⟩), .int .i64 (i : Int)] w fun e w' => e = .returned (.bool true) ∧ Aside0 (LexSt w0 g s (cutW s ws f i) note (-1) w') := by
  have HH := Aside0.mk h
  obtain ⟨v, hb, hr, hbl, hg⟩ := h
  have c0 : w.cell? ⟨g, 0, none⟩ = some v := blk_cell hb 0
  have c1 : w.cell? ⟨g, 1, none⟩ = some (.string note) := blk_cell hb 1
  have c2 : w.cell? ⟨g, 2, none⟩ = some (.string s) := blk_cell hb 2
  have c3 : w.cell? ⟨g, 3, none⟩ = some (.int .i64 f) := blk_cell hb 3
  have f1 : w.frozen? ⟨g, 1, none⟩ = false := blk_frozen hb 1
  have f3 : w.frozen? ⟨g, 3, none⟩ = false := blk_frozen hb 3
  have hi' : (i : Int) ≤ (s.size : Int) := by omega
  have hi2 : (i : Int) < (s.size : Int) := by omega
  have hi0 : (0 : Int) ≤ (i : Int) := by omega
  have HG := Aside0.mk hg
  clear hb hr hbl hg
  have d0 : decide (f < 0) = true := decide_eq_true hf
  have HP := Aside0.mk hp
  have HF : Aside0 (f < 0 ∨ (0 ≤ f ∧ f ≤ (i : Int))) := ⟨.inl hf⟩
  clear hp hf
  have HN := Aside0.mk hl
  clear hl
  have e40 : (((s[i]).toNat : Int) == 40) = false := by rw [hx]; decide
  have e41 : (((s[i]).toNat : Int) == 41) = false := by rw [hx]; decide
  have e91 : (((s[i]).toNat : Int) == 91) = false := by rw [hx]; decide
  have e93 : (((s[i]).toNat : Int) == 93) = false := by rw [hx]; decide
  have e44 : (((s[i]).toNat : Int) == 44) = false := by rw [hx]; decide
  have e32 : (((s[i]).toNat : Int) == 32) = false := by rw [hx]; decide
  have e9 : (((s[i]).toNat : Int) == 9) = true := by rw [hx]; decide
  clear hx
  go_enter Tryd.func20, Tryd.ntmps20
  go_wp2_with (first
    | (go_at_call 28; (with_reducible refine (strings_HasPrefix.calls (s.extract i s.size) ⟨#[47, 47]⟩ false _ HP.out).mono ?_); rintro e w' ⟨rfl, ⟨nd, rfl⟩⟩) | (go_at_call 21; (with_reducible refine (cut_any (HH.out.drewN nd) (i : Int) HF.out (by omega) HN.out).mono ?_); rintro e w' ⟨rfl, HC⟩))
  go_ret
  exact ⟨rfl, HC⟩
set_option maxHeartbeats 8000000 in
set_option maxRecDepth 100000 in
theorem take_sep0_40 {w0 w : World} {g : Nat} {s note : ByteArray} {ws : List S47} {f : Int} (h : LexSt w0 g s ws note f w) (i : Nat) (hi : i < s.size) (hf : f < 0) (hp : strings_HasPrefix.f (s.extract i s.size) ⟨#[47, 47]⟩ = some false) (hx : ((s[i]).toNat : Int) = 40) (hl : ws.length ≤ 100000000) (hs : s.size ≤ 1000000000) :
    Calls Tryd.prog 20 #[.pointer (some ⟨g, 0, none⟩), .int .i64 (i : Int)] w fun e w' => e = .returned (.bool true) ∧ Aside0 (LexSt w0 g s (cutW s ws f i ++ [⟨s.extract i (i + 1), (i : Int)⟩]) note (-1) w') := by
  have HH := Aside0.mk h
  obtain ⟨v, hb, hr, hbl, hg⟩ := h
  have c0 : w.cell? ⟨g, 0, none⟩ = some v := blk_cell hb 0
  have c1 : w.cell? ⟨g, 1, none⟩ = some (.string note) := blk_cell hb 1
  have c2 : w.cell? ⟨g, 2, none⟩ = some (.string s) := blk_cell hb 2
  have c3 : w.cell? ⟨g, 3, none⟩ = some (.int .i64 f) := blk_cell hb 3
  have f1 : w.frozen? ⟨g, 1, none⟩ = false := blk_frozen hb 1
  have f3 : w.frozen? ⟨g, 3, none⟩ = false := blk_frozen hb 3
  have hi' : (i : Int) ≤ (s.size : Int) := by omega
  have hi2 : (i : Int) < (s.size : Int) := by omega
  have hi0 : (0 : Int) ≤ (i : Int) := by omega
  have HG := Aside0.mk hg
  clear hb hr hbl hg
  have d0 : decide (f < 0) = true := decide_eq_true hf
  have HP := Aside0.mk hp
  have HF : Aside0 (f < 0 ∨ (0 ≤ f ∧ f ≤ (i : Int))) := ⟨.inl hf⟩
  clear hp hf
  have HN : Aside0 (ws.length ≤ 1000000000) := ⟨by omega⟩
  have HN2 : Aside0 ((cutW s ws f i).length ≤ 1000000000) := ⟨by have := cutW_le s ws f i; omega⟩
  have HW : Aside0 (IntKind.i64.wrap ((i : Int) + 1) = (i : Int) + 1) := ⟨by rw [IntKind.wrap_i64]; omega⟩
  clear hl hs
  have e40 : (((s[i]).toNat : Int) == 40) = true := by rw [hx]; decide
  have e41 : (((s[i]).toNat : Int) == 41) = false := by rw [hx]; decide
  have e91 : (((s[i]).toNat : Int) == 91) = false := by rw [hx]; decide
  have e93 : (((s[i]).toNat : Int) == 93) = false := by rw [hx]; decide
  have e44 : (((s[i]).toNat : Int) == 44) = false := by rw [hx]; decide
  have e32 : (((s[i]).toNat : Int) == 32) = false := by rw [hx]; decide
  have e9 : (((s[i]).toNat : Int) == 9) = false := by rw [hx]; decide
  clear hx
  go_enter Tryd.func20, Tryd.ntmps20
  go_upto_region 13 with (first
    | (go_at_call 28; (with_reducible refine (strings_HasPrefix.calls (s.extract i s.size) ⟨#[47, 47]⟩ false _ HP.out).mono ?_); rintro e w' ⟨rfl, ⟨nd, rfl⟩⟩) | (go_at_call 21; (with_reducible refine (cut_any (HH.out.drewN nd) (i : Int) HF.out (by omega) HN.out).mono ?_); rintro e w' ⟨rfl, HC⟩))
  clear c0 c1 c2 c3 f1 f3 HH
  have hw1 := HW.out
  have hw2 : (i : Int) ≤ (i : Int) + 1 := by omega
  have hw3 : (i : Int) + 1 ≤ (s.size : Int) := by omega
  obtain ⟨v, hb, hr, hbl, hg⟩ := HC.out
  have HB := Aside0.mk hb
  have HR := Aside0.mk hr
  have HL := Aside0.mk hbl
  clear hb hr hbl hg HC
  refine Q.wp_held_tail (LexV w0 g v s (cutW s ws f i) note (-1)) 17 (by kernel_rfl) (by kernel_rfl) (v := ?_) rfl (fun d _ _ _ _ h => by cases d <;> exact h) (Or.inl ⟨by rfl, ?_⟩) ⟨blk_drew HB.out, Kd.R_drew HR.out, HL.out.drew, HG.out⟩ rfl ?_
  rotate_left
  · intro w; go_simp; (try (with_reducible rfl))
  simp only [List.take_succ_cons, List.take_zero, List.drop_succ_cons, List.drop_zero, Act.put, List.setIfInBounds_toArray, List.set_cons_zero, List.set_cons_succ]
  repeat (refine Q.held_cons (v := ?_) (Or.inl ⟨by rfl, ?_⟩) ?_; rotate_left; (focus (intro W hW; have c0 : W.cell? ⟨g, 0, none⟩ = some v := blk_cell hW.1 0; have c2 : W.cell? ⟨g, 2, none⟩ = some (.string s) := blk_cell hW.1 2; go_simp; try with_reducible rfl)); (simp only [Act.put, List.setIfInBounds_toArray, List.set_cons_zero, List.set_cons_succ]))
  refine Q.held_nil ?_
  clear HB HR HL
  intro W hW
  refine ⟨?_, ?_, by rfl, ?_, ?_, ?_⟩
  rotate_left 2
  · go_simp
    refine ⟨?_, ?_⟩ <;> with_reducible rfl
  · exact ⟨blk_alloc hW.1 _, Kd.R_alloc hW.2.1 _, hW.2.2.1.alloc (hW.2.2.1.size) _, hW.2.2.2⟩
  simp only [Act.put, List.setIfInBounds_toArray, List.set_cons_zero, List.set_cons_succ]
  go_upto_region 14 with ((with_reducible refine gate_builtin (b := .append) (xs := #[.tmp 52, .tmp 63]) rfl ?_); at_builtin; refine Kd.R_append k47 (w0 := w0) w0.heap.size rfl (.tmp 52) (.tmp 63) 23 47 (.agg #[(.string ⟨#[]⟩), (.int .i64 0)]) 24 rfl Tryd.underlying23 info47 rfl (by decide) (by omega) v (cutW s ws f i) (⟨s.extract i (i + 1), (i : Int)⟩ : S47) [.string (s.extract i (i + 1)), .int .i64 (i : Int)] (fun _ => True) (fun _ => False) rfl rfl ?aP (fun _ hk => hk.elim) ?aF ?aO ?aB ?aS ?aL ?_; (case aP => exact k47_mkM _ _ _ (⟨s.extract i (i + 1), (i : Int)⟩ : S47)); (case aB => exact hW.2.2.1); (case aF => exact (fun _ _ => trivial)); (case aO => exact hW.2.1); (case aS => exact hW.2.2.1.size); (case aL => have := HN2.out; omega); intro v1 w1 ho hb hg hat; have HB1 := Aside0.mk (blk_grown hW.1 hg (Kd.R_ne hW.2.1 hW.1 (by decide))); have HR1 := Aside0.mk ho; have HL1 := Aside0.mk hb; have c0 : w1.cell? ⟨g, 0, none⟩ = some v := blk_cell HB1.out 0; have f0 : w1.frozen? ⟨g, 0, none⟩ = false := blk_frozen HB1.out 0; clear hb hg hat; obtain ⟨A1, q1, e1⟩ := Kd.R_slice ho; subst e1; clear ho)
  have HD : Aside0 (LexSt w0 g s (cutW s ws f i ++ [⟨s.extract i (i + 1), (i : Int)⟩]) note (-1) (w1.setCell ⟨g, 0, none⟩ (.slice A1 ((cutW s ws f i).length + 1) q1))) := by
    refine ⟨.slice A1 _ q1, ?_, Kd.R_set HR1.out HB1.out (by decide) 0 _, HL1.out.setCell HG.out _, HG.out⟩
    exact (blk_set HB1.out 0 _).trans (by rw [List.length_append]; rfl)
  clear c0 f0 HB1 HR1 HL1 hW
  go_wp2_with (go_at_call 21; (with_reducible refine (cut_neg HD.out (i : Int) (by omega)).mono ?_); rintro e w' ⟨rfl, HE⟩)
  go_ret
  exact ⟨rfl, HE⟩
set_option maxHeartbeats 8000000 in
set_option maxRecDepth 100000 in
theorem take_sep0_41 {w0 w : World} {g : Nat} {s note : ByteArray} {ws : List S47} {f : Int} (h : LexSt w0 g s ws note f w) (i : Nat) (hi : i < s.size) (hf : f < 0) (hp : strings_HasPrefix.f (s.extract i s.size) ⟨#[47, 47]⟩ = some false) (hx : ((s[i]).toNat : Int) = 41) (hl : ws.length ≤ 100000000) (hs : s.size ≤ 1000000000) :
    Calls Tryd.prog 20 #[.pointer (some ⟨g, 0, none⟩), .int .i64 (i : Int)] w fun e w' => e = .returned (.bool true) ∧ Aside0 (LexSt w0 g s (cutW s ws f i ++ [⟨s.extract i (i + 1), (i : Int)⟩]) note (-1) w') := by
  have HH := Aside0.mk h
  obtain ⟨v, hb, hr, hbl, hg⟩ := h
  have c0 : w.cell? ⟨g, 0, none⟩ = some v := blk_cell hb 0
  have c1 : w.cell? ⟨g, 1, none⟩ = some (.string note) := blk_cell hb 1
  have c2 : w.cell? ⟨g, 2, none⟩ = some (.string s) := blk_cell hb 2
  have c3 : w.cell? ⟨g, 3, none⟩ = some (.int .i64 f) := blk_cell hb 3
  have f1 : w.frozen? ⟨g, 1, none⟩ = false := blk_frozen hb 1
  have f3 : w.frozen? ⟨g, 3, none⟩ = false := blk_frozen hb 3
  have hi' : (i : Int) ≤ (s.size : Int) := by omega
  have hi2 : (i : Int) < (s.size : Int) := by omega
  have hi0 : (0 : Int) ≤ (i : Int) := by omega
  have HG := Aside0.mk hg
  clear hb hr hbl hg
  have d0 : decide (f < 0) = true := decide_eq_true hf
  have HP := Aside0.mk hp
  have HF : Aside0 (f < 0 ∨ (0 ≤ f ∧ f ≤ (i : Int))) := ⟨.inl hf⟩
  clear hp hf
  have HN : Aside0 (ws.length ≤ 1000000000) := ⟨by omega⟩
  have HN2 : Aside0 ((cutW s ws f i).length ≤ 1000000000) := ⟨by have := cutW_le s ws f i; omega⟩
  have HW : Aside0 (IntKind.i64.wrap ((i : Int) + 1) = (i : Int) + 1) := ⟨by rw [IntKind.wrap_i64]; omega⟩
  clear hl hs
  have e40 : (((s[i]).toNat : Int) == 40) = false := by rw [hx]; decide
  have e41 : (((s[i]).toNat : Int) == 41) = true := by rw [hx]; decide
  have e91 : (((s[i]).toNat : Int) == 91) = false := by rw [hx]; decide
  have e93 : (((s[i]).toNat : Int) == 93) = false := by rw [hx]; decide
  have e44 : (((s[i]).toNat : Int) == 44) = false := by rw [hx]; decide
  have e32 : (((s[i]).toNat : Int) == 32) = false := by rw [hx]; decide
  have e9 : (((s[i]).toNat : Int) == 9) = false := by rw [hx]; decide
  clear hx
  go_enter Tryd.func20, Tryd.ntmps20
  go_upto_region 13 with (first
    | (go_at_call 28; (with_reducible refine (strings_HasPrefix.calls (s.extract i s.size) ⟨#[47, 47]⟩ false _ HP.out).mono ?_); rintro e w' ⟨rfl, ⟨nd, rfl⟩⟩) | (go_at_call 21; (with_reducible refine (cut_any (HH.out.drewN nd) (i : Int) HF.out (by omega) HN.out).mono ?_); rintro e w' ⟨rfl, HC⟩))
  clear c0 c1 c2 c3 f1 f3 HH
  have hw1 := HW.out
  have hw2 : (i : Int) ≤ (i : Int) + 1 := by omega
  have hw3 : (i : Int) + 1 ≤ (s.size : Int) := by omega
  obtain ⟨v, hb, hr, hbl, hg⟩ := HC.out
  have HB := Aside0.mk hb
  have HR := Aside0.mk hr
  have HL := Aside0.mk hbl
  clear hb hr hbl hg HC
  refine Q.wp_held_tail (LexV w0 g v s (cutW s ws f i) note (-1)) 17 (by kernel_rfl) (by kernel_rfl) (v := ?_) rfl (fun d _ _ _ _ h => by cases d <;> exact h) (Or.inl ⟨by rfl, ?_⟩) ⟨blk_drew HB.out, Kd.R_drew HR.out, HL.out.drew, HG.out⟩ rfl ?_
  rotate_left
  · intro w; go_simp; (try (with_reducible rfl))
  simp only [List.take_succ_cons, List.take_zero, List.drop_succ_cons, List.drop_zero, Act.put, List.setIfInBounds_toArray, List.set_cons_zero, List.set_cons_succ]
  repeat (refine Q.held_cons (v := ?_) (Or.inl ⟨by rfl, ?_⟩) ?_; rotate_left; (focus (intro W hW; have c0 : W.cell? ⟨g, 0, none⟩ = some v := blk_cell hW.1 0; have c2 : W.cell? ⟨g, 2, none⟩ = some (.string s) := blk_cell hW.1 2; go_simp; try with_reducible rfl)); (simp only [Act.put, List.setIfInBounds_toArray, List.set_cons_zero, List.set_cons_succ]))
  refine Q.held_nil ?_
  clear HB HR HL
  intro W hW
  refine ⟨?_, ?_, by rfl, ?_, ?_, ?_⟩
  rotate_left 2
  · go_simp
    refine ⟨?_, ?_⟩ <;> with_reducible rfl
  · exact ⟨blk_alloc hW.1 _, Kd.R_alloc hW.2.1 _, hW.2.2.1.alloc (hW.2.2.1.size) _, hW.2.2.2⟩
  simp only [Act.put, List.setIfInBounds_toArray, List.set_cons_zero, List.set_cons_succ]
  go_upto_region 14 with ((with_reducible refine gate_builtin (b := .append) (xs := #[.tmp 52, .tmp 63]) rfl ?_); at_builtin; refine Kd.R_append k47 (w0 := w0) w0.heap.size rfl (.tmp 52) (.tmp 63) 23 47 (.agg #[(.string ⟨#[]⟩), (.int .i64 0)]) 24 rfl Tryd.underlying23 info47 rfl (by decide) (by omega) v (cutW s ws f i) (⟨s.extract i (i + 1), (i : Int)⟩ : S47) [.string (s.extract i (i + 1)), .int .i64 (i : Int)] (fun _ => True) (fun _ => False) rfl rfl ?aP (fun _ hk => hk.elim) ?aF ?aO ?aB ?aS ?aL ?_; (case aP => exact k47_mkM _ _ _ (⟨s.extract i (i + 1), (i : Int)⟩ : S47)); (case aB => exact hW.2.2.1); (case aF => exact (fun _ _ => trivial)); (case aO => exact hW.2.1); (case aS => exact hW.2.2.1.size); (case aL => have := HN2.out; omega); intro v1 w1 ho hb hg hat; have HB1 := Aside0.mk (blk_grown hW.1 hg (Kd.R_ne hW.2.1 hW.1 (by decide))); have HR1 := Aside0.mk ho; have HL1 := Aside0.mk hb; have c0 : w1.cell? ⟨g, 0, none⟩ = some v := blk_cell HB1.out 0; have f0 : w1.frozen? ⟨g, 0, none⟩ = false := blk_frozen HB1.out 0; clear hb hg hat; obtain ⟨A1, q1, e1⟩ := Kd.R_slice ho; subst e1; clear ho)
  have HD : Aside0 (LexSt w0 g s (cutW s ws f i ++ [⟨s.extract i (i + 1), (i : Int)⟩]) note (-1) (w1.setCell ⟨g, 0, none⟩ (.slice A1 ((cutW s ws f i).length + 1) q1))) := by
    refine ⟨.slice A1 _ q1, ?_, Kd.R_set HR1.out HB1.out (by decide) 0 _, HL1.out.setCell HG.out _, HG.out⟩
    exact (blk_set HB1.out 0 _).trans (by rw [List.length_append]; rfl)
  clear c0 f0 HB1 HR1 HL1 hW
  go_wp2_with (go_at_call 21; (with_reducible refine (cut_neg HD.out (i : Int) (by omega)).mono ?_); rintro e w' ⟨rfl, HE⟩)
  go_ret
  exact ⟨rfl, HE⟩
set_option maxHeartbeats 8000000 in
set_option maxRecDepth 100000 in
theorem take_sep0_91 {w0 w : World} {g : Nat} {s note : ByteArray} {ws : List S47} {f : Int} (h : LexSt w0 g s ws note f w) (i : Nat) (hi : i < s.size) (hf : f < 0) (hp : strings_HasPrefix.f (s.extract i s.size) ⟨#[47, 47]⟩ = some false) (hx : ((s[i]).toNat : Int) = 91) (hl : ws.length ≤ 100000000) (hs : s.size ≤ 1000000000) :
    Calls Tryd.prog 20 #[.pointer (some ⟨g, 0, none⟩), .int .i64 (i : Int)] w fun e w' => e = .returned (.bool true) ∧ Aside0 (LexSt w0 g s (cutW s ws f i ++ [⟨s.extract i (i + 1), (i : Int)⟩]) note (-1) w') := by
  have HH := Aside0.mk h
  obtain ⟨v, hb, hr, hbl, hg⟩ := h
  have c0 : w.cell? ⟨g, 0, none⟩ = some v := blk_cell hb 0
  have c1 : w.cell? ⟨g, 1, none⟩ = some (.string note) := blk_cell hb 1
  have c2 : w.cell? ⟨g, 2, none⟩ = some (.string s) := blk_cell hb 2
  have c3 : w.cell? ⟨g, 3, none⟩ = some (.int .i64 f) := blk_cell hb 3
  have f1 : w.frozen? ⟨g, 1, none⟩ = false := blk_frozen hb 1
  have f3 : w.frozen? ⟨g, 3, none⟩ = false := blk_frozen hb 3
  have hi' : (i : Int) ≤ (s.size : Int) := by omega
  have hi2 : (i : Int) < (s.size : Int) := by omega
  have hi0 : (0 : Int) ≤ (i : Int) := by omega
  have HG := Aside0.mk hg
  clear hb hr hbl hg
  have d0 : decide (f < 0) = true := decide_eq_true hf
  have HP := Aside0.mk hp
  have HF : Aside0 (f < 0 ∨ (0 ≤ f ∧ f ≤ (i : Int))) := ⟨.inl hf⟩
  clear hp hf
  have HN : Aside0 (ws.length ≤ 1000000000) := ⟨by omega⟩
  have HN2 : Aside0 ((cutW s ws f i).length ≤ 1000000000) := ⟨by have := cutW_le s ws f i; omega⟩
  have HW : Aside0 (IntKind.i64.wrap ((i : Int) + 1) = (i : Int) + 1) := ⟨by rw [IntKind.wrap_i64]; omega⟩
  clear hl hs
  have e40 : (((s[i]).toNat : Int) == 40) = false := by rw [hx]; decide
  have e41 : (((s[i]).toNat : Int) == 41) = false := by rw [hx]; decide
  have e91 : (((s[i]).toNat : Int) == 91) = true := by rw [hx]; decide
  have e93 : (((s[i]).toNat : Int) == 93) = false := by rw [hx]; decide
  have e44 : (((s[i]).toNat : Int) == 44) = false := by rw [hx]; decide
  have e32 : (((s[i]).toNat : Int) == 32) = false := by rw [hx]; decide
  have e9 : (((s[i]).toNat : Int) == 9) = false := by rw [hx]; decide
  clear hx
  go_enter Tryd.func20, Tryd.ntmps20
  go_upto_region 13 with (first
    | (go_at_call 28; (with_reducible refine (strings_HasPrefix.calls (s.extract i s.size) ⟨#[47, 47]⟩ false _ HP.out).mono ?_); rintro e w' ⟨rfl, ⟨nd, rfl⟩⟩) | (go_at_call 21; (with_reducible refine (cut_any (HH.out.drewN nd) (i : Int) HF.out (by omega) HN.out).mono ?_); rintro e w' ⟨rfl, HC⟩))
  clear c0 c1 c2 c3 f1 f3 HH
  have hw1 := HW.out
  have hw2 : (i : Int) ≤ (i : Int) + 1 := by omega
  have hw3 : (i : Int) + 1 ≤ (s.size : Int) := by omega
  obtain ⟨v, hb, hr, hbl, hg⟩ := HC.out
  have HB := Aside0.mk hb
  have HR := Aside0.mk hr
  have HL := Aside0.mk hbl
  clear hb hr hbl hg HC
  refine Q.wp_held_tail (LexV w0 g v s (cutW s ws f i) note (-1)) 17 (by kernel_rfl) (by kernel_rfl) (v := ?_) rfl (fun d _ _ _ _ h => by cases d <;> exact h) (Or.inl ⟨by rfl, ?_⟩) ⟨blk_drew HB.out, Kd.R_drew HR.out, HL.out.drew, HG.out⟩ rfl ?_
  rotate_left
  · intro w; go_simp; (try (with_reducible rfl))
  simp only [List.take_succ_cons, List.take_zero, List.drop_succ_cons, List.drop_zero, Act.put, List.setIfInBounds_toArray, List.set_cons_zero, List.set_cons_succ]
  repeat (refine Q.held_cons (v := ?_) (Or.inl ⟨by rfl, ?_⟩) ?_; rotate_left; (focus (intro W hW; have c0 : W.cell? ⟨g, 0, none⟩ = some v := blk_cell hW.1 0; have c2 : W.cell? ⟨g, 2, none⟩ = some (.string s) := blk_cell hW.1 2; go_simp; try with_reducible rfl)); (simp only [Act.put, List.setIfInBounds_toArray, List.set_cons_zero, List.set_cons_succ]))
  refine Q.held_nil ?_
  clear HB HR HL
  intro W hW
  refine ⟨?_, ?_, by rfl, ?_, ?_, ?_⟩
  rotate_left 2
  · go_simp
    refine ⟨?_, ?_⟩ <;> with_reducible rfl
  · exact ⟨blk_alloc hW.1 _, Kd.R_alloc hW.2.1 _, hW.2.2.1.alloc (hW.2.2.1.size) _, hW.2.2.2⟩
  simp only [Act.put, List.setIfInBounds_toArray, List.set_cons_zero, List.set_cons_succ]
  go_upto_region 14 with ((with_reducible refine gate_builtin (b := .append) (xs := #[.tmp 52, .tmp 63]) rfl ?_); at_builtin; refine Kd.R_append k47 (w0 := w0) w0.heap.size rfl (.tmp 52) (.tmp 63) 23 47 (.agg #[(.string ⟨#[]⟩), (.int .i64 0)]) 24 rfl Tryd.underlying23 info47 rfl (by decide) (by omega) v (cutW s ws f i) (⟨s.extract i (i + 1), (i : Int)⟩ : S47) [.string (s.extract i (i + 1)), .int .i64 (i : Int)] (fun _ => True) (fun _ => False) rfl rfl ?aP (fun _ hk => hk.elim) ?aF ?aO ?aB ?aS ?aL ?_; (case aP => exact k47_mkM _ _ _ (⟨s.extract i (i + 1), (i : Int)⟩ : S47)); (case aB => exact hW.2.2.1); (case aF => exact (fun _ _ => trivial)); (case aO => exact hW.2.1); (case aS => exact hW.2.2.1.size); (case aL => have := HN2.out; omega); intro v1 w1 ho hb hg hat; have HB1 := Aside0.mk (blk_grown hW.1 hg (Kd.R_ne hW.2.1 hW.1 (by decide))); have HR1 := Aside0.mk ho; have HL1 := Aside0.mk hb; have c0 : w1.cell? ⟨g, 0, none⟩ = some v := blk_cell HB1.out 0; have f0 : w1.frozen? ⟨g, 0, none⟩ = false := blk_frozen HB1.out 0; clear hb hg hat; obtain ⟨A1, q1, e1⟩ := Kd.R_slice ho; subst e1; clear ho)
  have HD : Aside0 (LexSt w0 g s (cutW s ws f i ++ [⟨s.extract i (i + 1), (i : Int)⟩]) note (-1) (w1.setCell ⟨g, 0, none⟩ (.slice A1 ((cutW s ws f i).length + 1) q1))) := by
    refine ⟨.slice A1 _ q1, ?_, Kd.R_set HR1.out HB1.out (by decide) 0 _, HL1.out.setCell HG.out _, HG.out⟩
    exact (blk_set HB1.out 0 _).trans (by rw [List.length_append]; rfl)
  clear c0 f0 HB1 HR1 HL1 hW
  go_wp2_with (go_at_call 21; (with_reducible refine (cut_neg HD.out (i : Int) (by omega)).mono ?_); rintro e w' ⟨rfl, HE⟩)
  go_ret
  exact ⟨rfl, HE⟩
set_option maxHeartbeats 8000000 in
set_option maxRecDepth 100000 in
theorem take_sep0_93 {w0 w : World} {g : Nat} {s note : ByteArray} {ws : List S47} {f : Int} (h : LexSt w0 g s ws note f w) (i : Nat) (hi : i < s.size) (hf : f < 0) (hp : strings_HasPrefix.f (s.extract i s.size) ⟨#[47, 47]⟩ = some false) (hx : ((s[i]).toNat : Int) = 93) (hl : ws.length ≤ 100000000) (hs : s.size ≤ 1000000000) :
    Calls Tryd.prog 20 #[.pointer (some ⟨g, 0, none⟩), .int .i64 (i : Int)] w fun e w' => e = .returned (.bool true) ∧ Aside0 (LexSt w0 g s (cutW s ws f i ++ [⟨s.extract i (i + 1), (i : Int)⟩]) note (-1) w') := by
  have HH := Aside0.mk h
  obtain ⟨v, hb, hr, hbl, hg⟩ := h
  have c0 : w.cell? ⟨g, 0, none⟩ = some v := blk_cell hb 0
  have c1 : w.cell? ⟨g, 1, none⟩ = some (.string note) := blk_cell hb 1
  have c2 : w.cell? ⟨g, 2, none⟩ = some (.string s) := blk_cell hb 2
  have c3 : w.cell? ⟨g, 3, none⟩ = some (.int .i64 f) := blk_cell hb 3
  have f1 : w.frozen? ⟨g, 1, none⟩ = false := blk_frozen hb 1
  have f3 : w.frozen? ⟨g, 3, none⟩ = false := blk_frozen hb 3
  have hi' : (i : Int) ≤ (s.size : Int) := by omega
  have hi2 : (i : Int) < (s.size : Int) := by omega
  have hi0 : (0 : Int) ≤ (i : Int) := by omega
  have HG := Aside0.mk hg
  clear hb hr hbl hg
  have d0 : decide (f < 0) = true := decide_eq_true hf
  have HP := Aside0.mk hp
  have HF : Aside0 (f < 0 ∨ (0 ≤ f ∧ f ≤ (i : Int))) := ⟨.inl hf⟩
  clear hp hf
  have HN : Aside0 (ws.length ≤ 1000000000) := ⟨by omega⟩
  have HN2 : Aside0 ((cutW s ws f i).length ≤ 1000000000) := ⟨by have := cutW_le s ws f i; omega⟩
  have HW : Aside0 (IntKind.i64.wrap ((i : Int) + 1) = (i : Int) + 1) := ⟨by rw [IntKind.wrap_i64]; omega⟩
  clear hl hs
  have e40 : (((s[i]).toNat : Int) == 40) = false := by rw [hx]; decide
  have e41 : (((s[i]).toNat : Int) == 41) = false := by rw [hx]; decide
  have e91 : (((s[i]).toNat : Int) == 91) = false := by rw [hx]; decide
  have e93 : (((s[i]).toNat : Int) == 93) = true := by rw [hx]; decide
  have e44 : (((s[i]).toNat : Int) == 44) = false := by rw [hx]; decide
  have e32 : (((s[i]).toNat : Int) == 32) = false := by rw [hx]; decide
  have e9 : (((s[i]).toNat : Int) == 9) = false := by rw [hx]; decide
  clear hx
  go_enter Tryd.func20, Tryd.ntmps20
  go_upto_region 13 with (first
    | (go_at_call 28; (with_reducible refine (strings_HasPrefix.calls (s.extract i s.size) ⟨#[47, 47]⟩ false _ HP.out).mono ?_); rintro e w' ⟨rfl, ⟨nd, rfl⟩⟩) | (go_at_call 21; (with_reducible refine (cut_any (HH.out.drewN nd) (i : Int) HF.out (by omega) HN.out).mono ?_); rintro e w' ⟨rfl, HC⟩))
  clear c0 c1 c2 c3 f1 f3 HH
  have hw1 := HW.out
  have hw2 : (i : Int) ≤ (i : Int) + 1 := by omega
  have hw3 : (i : Int) + 1 ≤ (s.size : Int) := by omega
  obtain ⟨v, hb, hr, hbl, hg⟩ := HC.out
  have HB := Aside0.mk hb
  have HR := Aside0.mk hr
  have HL := Aside0.mk hbl
  clear hb hr hbl hg HC
  refine Q.wp_held_tail (LexV w0 g v s (cutW s ws f i) note (-1)) 17 (by kernel_rfl) (by kernel_rfl) (v := ?_) rfl (fun d _ _ _ _ h => by cases d <;> exact h) (Or.inl ⟨by rfl, ?_⟩) ⟨blk_drew HB.out, Kd.R_drew HR.out, HL.out.drew, HG.out⟩ rfl ?_
  rotate_left
  · intro w; go_simp; (try (with_reducible rfl))
  simp only [List.take_succ_cons, List.take_zero, List.drop_succ_cons, List.drop_zero, Act.put, List.setIfInBounds_toArray, List.set_cons_zero, List.set_cons_succ]
  repeat (refine Q.held_cons (v := ?_) (Or.inl ⟨by rfl, ?_⟩) ?_; rotate_left; (focus (intro W hW; have c0 : W.cell? ⟨g, 0, none⟩ = some v := blk_cell hW.1 0; have c2 : W.cell? ⟨g, 2, none⟩ = some (.string s) := blk_cell hW.1 2; go_simp; try with_reducible rfl)); (simp only [Act.put, List.setIfInBounds_toArray, List.set_cons_zero, List.set_cons_succ]))
  refine Q.held_nil ?_
  clear HB HR HL
  intro W hW
  refine ⟨?_, ?_, by rfl, ?_, ?_, ?_⟩
  rotate_left 2
  · go_simp
    refine ⟨?_, ?_⟩ <;> with_reducible rfl
  · exact ⟨blk_alloc hW.1 _, Kd.R_alloc hW.2.1 _, hW.2.2.1.alloc (hW.2.2.1.size) _, hW.2.2.2⟩
  simp only [Act.put, List.setIfInBounds_toArray, List.set_cons_zero, List.set_cons_succ]
  go_upto_region 14 with ((with_reducible refine gate_builtin (b := .append) (xs := #[.tmp 52, .tmp 63]) rfl ?_); at_builtin; refine Kd.R_append k47 (w0 := w0) w0.heap.size rfl (.tmp 52) (.tmp 63) 23 47 (.agg #[(.string ⟨#[]⟩), (.int .i64 0)]) 24 rfl Tryd.underlying23 info47 rfl (by decide) (by omega) v (cutW s ws f i) (⟨s.extract i (i + 1), (i : Int)⟩ : S47) [.string (s.extract i (i + 1)), .int .i64 (i : Int)] (fun _ => True) (fun _ => False) rfl rfl ?aP (fun _ hk => hk.elim) ?aF ?aO ?aB ?aS ?aL ?_; (case aP => exact k47_mkM _ _ _ (⟨s.extract i (i + 1), (i : Int)⟩ : S47)); (case aB => exact hW.2.2.1); (case aF => exact (fun _ _ => trivial)); (case aO => exact hW.2.1); (case aS => exact hW.2.2.1.size); (case aL => have := HN2.out; omega); intro v1 w1 ho hb hg hat; have HB1 := Aside0.mk (blk_grown hW.1 hg (Kd.R_ne hW.2.1 hW.1 (by decide))); have HR1 := Aside0.mk ho; have HL1 := Aside0.mk hb; have c0 : w1.cell? ⟨g, 0, none⟩ = some v := blk_cell HB1.out 0; have f0 : w1.frozen? ⟨g, 0, none⟩ = false := blk_frozen HB1.out 0; clear hb hg hat; obtain ⟨A1, q1, e1⟩ := Kd.R_slice ho; subst e1; clear ho)
  have HD : Aside0 (LexSt w0 g s (cutW s ws f i ++ [⟨s.extract i (i + 1), (i : Int)⟩]) note (-1) (w1.setCell ⟨g, 0, none⟩ (.slice A1 ((cutW s ws f i).length + 1) q1))) := by
    refine ⟨.slice A1 _ q1, ?_, Kd.R_set HR1.out HB1.out (by decide) 0 _, HL1.out.setCell HG.out _, HG.out⟩
    exact (blk_set HB1.out 0 _).trans (by rw [List.length_append]; rfl)
  clear c0 f0 HB1 HR1 HL1 hW
  go_wp2_with (go_at_call 21; (with_reducible refine (cut_neg HD.out (i : Int) (by omega)).mono ?_); rintro e w' ⟨rfl, HE⟩)
  go_ret
  exact ⟨rfl, HE⟩
set_option maxHeartbeats 8000000 in
set_option maxRecDepth 100000 in
theorem take_sep0_44 {w0 w : World} {g : Nat} {s note : ByteArray} {ws : List S47} {f : Int} (h : LexSt w0 g s ws note f w) (i : Nat) (hi : i < s.size) (hf : f < 0) (hp : strings_HasPrefix.f (s.extract i s.size) ⟨#[47, 47]⟩ = some false) (hx : ((s[i]).toNat : Int) = 44) (hl : ws.length ≤ 100000000) (hs : s.size ≤ 1000000000) :
    Calls Tryd.prog 20 #[.pointer (some ⟨g, 0, none⟩), .int .i64 (i : Int)] w fun e w' => e = .returned (.bool true) ∧ Aside0 (LexSt w0 g s (cutW s ws f i ++ [⟨s.extract i (i + 1), (i : Int)⟩]) note (-1) w') := by
  have HH := Aside0.mk h
  obtain ⟨v, hb, hr, hbl, hg⟩ := h
  have c0 : w.cell? ⟨g, 0, none⟩ = some v := blk_cell hb 0
  have c1 : w.cell? ⟨g, 1, none⟩ = some (.string note) := blk_cell hb 1
  have c2 : w.cell? ⟨g, 2, none⟩ = some (.string s) := blk_cell hb 2
  have c3 : w.cell? ⟨g, 3, none⟩ = some (.int .i64 f) := blk_cell hb 3
  have f1 : w.frozen? ⟨g, 1, none⟩ = false := blk_frozen hb 1
  have f3 : w.frozen? ⟨g, 3, none⟩ = false := blk_frozen hb 3
  have hi' : (i : Int) ≤ (s.size : Int) := by omega
  have hi2 : (i : Int) < (s.size : Int) := by omega
  have hi0 : (0 : Int) ≤ (i : Int) := by omega
  have HG := Aside0.mk hg
  clear hb hr hbl hg
  have d0 : decide (f < 0) = true := decide_eq_true hf
  have HP := Aside0.mk hp
  have HF : Aside0 (f < 0 ∨ (0 ≤ f ∧ f ≤ (i : Int))) := ⟨.inl hf⟩
  clear hp hf
  have HN : Aside0 (ws.length ≤ 1000000000) := ⟨by omega⟩
  have HN2 : Aside0 ((cutW s ws f i).length ≤ 1000000000) := ⟨by have := cutW_le s ws f i; omega⟩
  have HW : Aside0 (IntKind.i64.wrap ((i : Int) + 1) = (i : Int) + 1) := ⟨by rw [IntKind.wrap_i64]; omega⟩
  clear hl hs
  have e40 : (((s[i]).toNat : Int) == 40) = false := by rw [hx]; decide
  have e41 : (((s[i]).toNat : Int) == 41) = false := by rw [hx]; decide
  have e91 : (((s[i]).toNat : Int) == 91) = false := by rw [hx]; decide
  have e93 : (((s[i]).toNat : Int) == 93) = false := by rw [hx]; decide
  have e44 : (((s[i]).toNat : Int) == 44) = true := by rw [hx]; decide
  have e32 : (((s[i]).toNat : Int) == 32) = false := by rw [hx]; decide
  have e9 : (((s[i]).toNat : Int) == 9) = false := by rw [hx]; decide
  clear hx
  go_enter Tryd.func20, Tryd.ntmps20
  go_upto_region 13 with (first
    | (go_at_call 28; (with_reducible refine (strings_HasPrefix.calls (s.extract i s.size) ⟨#[47, 47]⟩ false _ HP.out).mono ?_); rintro e w' ⟨rfl, ⟨nd, rfl⟩⟩) | (go_at_call 21; (with_reducible refine (cut_any (HH.out.drewN nd) (i : Int) HF.out (by omega) HN.out).mono ?_); rintro e w' ⟨rfl, HC⟩))
  clear c0 c1 c2 c3 f1 f3 HH
  have hw1 := HW.out
  have hw2 : (i : Int) ≤ (i : Int) + 1 := by omega
  have hw3 : (i : Int) + 1 ≤ (s.size : Int) := by omega
  obtain ⟨v, hb, hr, hbl, hg⟩ := HC.out
  have HB := Aside0.mk hb
  have HR := Aside0.mk hr
  have HL := Aside0.mk hbl
  clear hb hr hbl hg HC
  refine Q.wp_held_tail (LexV w0 g v s (cutW s ws f i) note (-1)) 17 (by kernel_rfl) (by kernel_rfl) (v := ?_) rfl (fun d _ _ _ _ h => by cases d <;> exact h) (Or.inl ⟨by rfl, ?_⟩) ⟨blk_drew HB.out, Kd.R_drew HR.out, HL.out.drew, HG.out⟩ rfl ?_
  rotate_left
  · intro w; go_simp; (try (with_reducible rfl))
  simp only [List.take_succ_cons, List.take_zero, List.drop_succ_cons, List.drop_zero, Act.put, List.setIfInBounds_toArray, List.set_cons_zero, List.set_cons_succ]
  repeat (refine Q.held_cons (v := ?_) (Or.inl ⟨by rfl, ?_⟩) ?_; rotate_left; (focus (intro W hW; have c0 : W.cell? ⟨g, 0, none⟩ = some v := blk_cell hW.1 0; have c2 : W.cell? ⟨g, 2, none⟩ = some (.string s) := blk_cell hW.1 2; go_simp; try with_reducible rfl)); (simp only [Act.put, List.setIfInBounds_toArray, List.set_cons_zero, List.set_cons_succ]))
  refine Q.held_nil ?_
  clear HB HR HL
  intro W hW
  refine ⟨?_, ?_, by rfl, ?_, ?_, ?_⟩
  rotate_left 2
  · go_simp
    refine ⟨?_, ?_⟩ <;> with_reducible rfl
  · exact ⟨blk_alloc hW.1 _, Kd.R_alloc hW.2.1 _, hW.2.2.1.alloc (hW.2.2.1.size) _, hW.2.2.2⟩
  simp only [Act.put, List.setIfInBounds_toArray, List.set_cons_zero, List.set_cons_succ]
  go_upto_region 14 with ((with_reducible refine gate_builtin (b := .append) (xs := #[.tmp 52, .tmp 63]) rfl ?_); at_builtin; refine Kd.R_append k47 (w0 := w0) w0.heap.size rfl (.tmp 52) (.tmp 63) 23 47 (.agg #[(.string ⟨#[]⟩), (.int .i64 0)]) 24 rfl Tryd.underlying23 info47 rfl (by decide) (by omega) v (cutW s ws f i) (⟨s.extract i (i + 1), (i : Int)⟩ : S47) [.string (s.extract i (i + 1)), .int .i64 (i : Int)] (fun _ => True) (fun _ => False) rfl rfl ?aP (fun _ hk => hk.elim) ?aF ?aO ?aB ?aS ?aL ?_; (case aP => exact k47_mkM _ _ _ (⟨s.extract i (i + 1), (i : Int)⟩ : S47)); (case aB => exact hW.2.2.1); (case aF => exact (fun _ _ => trivial)); (case aO => exact hW.2.1); (case aS => exact hW.2.2.1.size); (case aL => have := HN2.out; omega); intro v1 w1 ho hb hg hat; have HB1 := Aside0.mk (blk_grown hW.1 hg (Kd.R_ne hW.2.1 hW.1 (by decide))); have HR1 := Aside0.mk ho; have HL1 := Aside0.mk hb; have c0 : w1.cell? ⟨g, 0, none⟩ = some v := blk_cell HB1.out 0; have f0 : w1.frozen? ⟨g, 0, none⟩ = false := blk_frozen HB1.out 0; clear hb hg hat; obtain ⟨A1, q1, e1⟩ := Kd.R_slice ho; subst e1; clear ho)
  have HD : Aside0 (LexSt w0 g s (cutW s ws f i ++ [⟨s.extract i (i + 1), (i : Int)⟩]) note (-1) (w1.setCell ⟨g, 0, none⟩ (.slice A1 ((cutW s ws f i).length + 1) q1))) := by
    refine ⟨.slice A1 _ q1, ?_, Kd.R_set HR1.out HB1.out (by decide) 0 _, HL1.out.setCell HG.out _, HG.out⟩
    exact (blk_set HB1.out 0 _).trans (by rw [List.length_append]; rfl)
  clear c0 f0 HB1 HR1 HL1 hW
  go_wp2_with (go_at_call 21; (with_reducible refine (cut_neg HD.out (i : Int) (by omega)).mono ?_); rintro e w' ⟨rfl, HE⟩)
  go_ret
  exact ⟨rfl, HE⟩
set_option maxHeartbeats 8000000 in
set_option maxRecDepth 100000 in
theorem take_other1 {w0 w : World} {g : Nat} {s note : ByteArray} {ws : List S47} {f : Int} (h : LexSt w0 g s ws note f w) (i : Nat) (hi : i < s.size) (hf : 0 ≤ f) (hfi : f ≤ i) (hx : ∀ c ∈ [40, 41, 91, 93, 44, 32, 9], ((s[i]).toNat : Int) ≠ c) :
    Calls Tryd.prog 20 #[.pointer (some ⟨g, 0, none⟩), .int .i64 (i : Int)] w fun e w' => e = .returned (.bool true) ∧ Aside0 (LexSt w0 g s ws note f w') := by
  have HH := Aside0.mk h
  obtain ⟨v, hb, hr, hbl, hg⟩ := h
  have c0 : w.cell? ⟨g, 0, none⟩ = some v := blk_cell hb 0
  have c1 : w.cell? ⟨g, 1, none⟩ = some (.string note) := blk_cell hb 1
  have c2 : w.cell? ⟨g, 2, none⟩ = some (.string s) := blk_cell hb 2
  have c3 : w.cell? ⟨g, 3, none⟩ = some (.int .i64 f) := blk_cell hb 3
  have f1 : w.frozen? ⟨g, 1, none⟩ = false := blk_frozen hb 1
  have f3 : w.frozen? ⟨g, 3, none⟩ = false := blk_frozen hb 3
  have hi' : (i : Int) ≤ (s.size : Int) := by omega
  have hi2 : (i : Int) < (s.size : Int) := by omega
  have hi0 : (0 : Int) ≤ (i : Int) := by omega
  have HG := Aside0.mk hg
  clear hb hr hbl hg
  have d0 : decide (f < 0) = false := decide_eq_false (by omega)
  have HF : Aside0 (f < 0 ∨ (0 ≤ f ∧ f ≤ (i : Int))) := ⟨.inr ⟨hf, hfi⟩⟩
  clear hf hfi
  have e40 : (((s[i]).toNat : Int) == 40) = false := beq_eq_false_iff_ne.2 (hx _ (by simp))
  have e41 : (((s[i]).toNat : Int) == 41) = false := beq_eq_false_iff_ne.2 (hx _ (by simp))
  have e91 : (((s[i]).toNat : Int) == 91) = false := beq_eq_false_iff_ne.2 (hx _ (by simp))
  have e93 : (((s[i]).toNat : Int) == 93) = false := beq_eq_false_iff_ne.2 (hx _ (by simp))
  have e44 : (((s[i]).toNat : Int) == 44) = false := beq_eq_false_iff_ne.2 (hx _ (by simp))
  have e32 : (((s[i]).toNat : Int) == 32) = false := beq_eq_false_iff_ne.2 (hx _ (by simp))
  have e9 : (((s[i]).toNat : Int) == 9) = false := beq_eq_false_iff_ne.2 (hx _ (by simp))
  clear hx
  go_enter Tryd.func20, Tryd.ntmps20
  go_wp2_with (first
    | fail)
  go_ret
  exact ⟨rfl, ⟨HH.out⟩⟩
set_option maxHeartbeats 8000000 in
set_option maxRecDepth 100000 in
theorem take_blank1_32 {w0 w : World} {g : Nat} {s note : ByteArray} {ws : List S47} {f : Int} (h : LexSt w0 g s ws note f w) (i : Nat) (hi : i < s.size) (hf : 0 ≤ f) (hfi : f ≤ i) (hx : ((s[i]).toNat : Int) = 32) (hl : ws.length ≤ 1000000000) :
    Calls Tryd.prog 20 #[.pointer (some ⟨g, 0, none⟩), .int .i64 (i : Int)] w fun e w' => e = .returned (.bool true) ∧ Aside0 (LexSt w0 g s (cutW s ws f i) note (-1) w') := by
  have HH := Aside0.mk h
  obtain ⟨v, hb, hr, hbl, hg⟩ := h
  have c0 : w.cell? ⟨g, 0, none⟩ = some v := blk_cell hb 0
  have c1 : w.cell? ⟨g, 1, none⟩ = some (.string note) := blk_cell hb 1
  have c2 : w.cell? ⟨g, 2, none⟩ = some (.string s) := blk_cell hb 2
  have c3 : w.cell? ⟨g, 3, none⟩ = some (.int .i64 f) := blk_cell hb 3
  have f1 : w.frozen? ⟨g, 1, none⟩ = false := blk_frozen hb 1
  have f3 : w.frozen? ⟨g, 3, none⟩ = false := blk_frozen hb 3
  have hi' : (i : Int) ≤ (s.size : Int) := by omega
  have hi2 : (i : Int) < (s.size : Int) := by omega
  have hi0 : (0 : Int) ≤ (i : Int) := by omega
  have HG := Aside0.mk hg
  clear hb hr hbl hg
  have d0 : decide (f < 0) = false := decide_eq_false (by omega)
  have HF : Aside0 (f < 0 ∨ (0 ≤ f ∧ f ≤ (i : Int))) := ⟨.inr ⟨hf, hfi⟩⟩
  clear hf hfi
  have HN := Aside0.mk hl
  clear hl
  have e40 : (((s[i]).toNat : Int) == 40) = false := by rw [hx]; decide
  have e41 : (((s[i]).toNat : Int) == 41) = false := by rw [hx]; decide
  have e91 : (((s[i]).toNat : Int) == 91) = false := by rw [hx]; decide
  have e93 : (((s[i]).toNat : Int) == 93) = false := by rw [hx]; decide
  have e44 : (((s[i]).toNat : Int) == 44) = false := by rw [hx]; decide
  have e32 : (((s[i]).toNat : Int) == 32) = true := by rw [hx]; decide
  have e9 : (((s[i]).toNat : Int) == 9) = false := by rw [hx]; decide
  clear hx
  go_enter Tryd.func20, Tryd.ntmps20
  go_wp2_with (first
    | fail | (go_at_call 21; (with_reducible refine (cut_any HH.out (i : Int) HF.out (by omega) HN.out).mono ?_); rintro e w' ⟨rfl, HC⟩))
  go_ret
  exact ⟨rfl, HC⟩
set_option maxHeartbeats 8000000 in
set_option maxRecDepth 100000 in
theorem take_blank1_9 {w0 w : World} {g : Nat} {s note : ByteArray} {ws : List S47} {f : Int} (h : LexSt w0 g s ws note f w) (i : Nat) (hi : i < s.size) (hf : 0 ≤ f) (hfi : f ≤ i) (hx : ((s[i]).toNat : Int) = 9) (hl : ws.length ≤ 1000000000) :
    Calls Tryd.prog 20 #[.pointer (some ⟨g, 0, none⟩), .int .i64 (i : Int)] w fun e w' => e = .returned (.bool true) ∧ Aside0 (LexSt w0 g s (cutW s ws f i) note (-1) w') := by
  have HH := Aside0.mk h
  obtain ⟨v, hb, hr, hbl, hg⟩ := h
  have c0 : w.cell? ⟨g, 0, none⟩ = some v := blk_cell hb 0
  have c1 : w.cell? ⟨g, 1, none⟩ = some (.string note) := blk_cell hb 1
  have c2 : w.cell? ⟨g, 2, none⟩ = some (.string s) := blk_cell hb 2
  have c3 : w.cell? ⟨g, 3, none⟩ = some (.int .i64 f) := blk_cell hb 3
  have f1 : w.frozen? ⟨g, 1, none⟩ = false := blk_frozen hb 1
  have f3 : w.frozen? ⟨g, 3, none⟩ = false := blk_frozen hb 3
  have hi' : (i : Int) ≤ (s.size : Int) := by omega
  have hi2 : (i : Int) < (s.size : Int) := by omega
  have hi0 : (0 : Int) ≤ (i : Int) := by omega
  have HG := Aside0.mk hg
  clear hb hr hbl hg
  have d0 : decide (f < 0) = false := decide_eq_false (by omega)
  have HF : Aside0 (f < 0 ∨ (0 ≤ f ∧ f ≤ (i : Int))) := ⟨.inr ⟨hf, hfi⟩⟩
  clear hf hfi
  have HN := Aside0.mk hl
  clear hl
  have e40 : (((s[i]).toNat : Int) == 40) = false := by rw [hx]; decide
  have e41 : (((s[i]).toNat : Int) == 41) = false := by rw [hx]; decide
  have e91 : (((s[i]).toNat : Int) == 91) = false := by rw [hx]; decide
  have e93 : (((s[i]).toNat : Int) == 93) = false := by rw [hx]; decide
  have e44 : (((s[i]).toNat : Int) == 44) = false := by rw [hx]; decide
  have e32 : (((s[i]).toNat : Int) == 32) = false := by rw [hx]; decide
  have e9 : (((s[i]).toNat : Int) == 9) = true := by rw [hx]; decide
  clear hx
  go_enter Tryd.func20, Tryd.ntmps20
  go_wp2_with (first
    | fail | (go_at_call 21; (with_reducible refine (cut_any HH.out (i : Int) HF.out (by omega) HN.out).mono ?_); rintro e w' ⟨rfl, HC⟩))
  go_ret
  exact ⟨rfl, HC⟩
set_option maxHeartbeats 8000000 in
set_option maxRecDepth 100000 in
theorem take_sep1_40 {w0 w : World} {g : Nat} {s note : ByteArray} {ws : List S47} {f : Int} (h : LexSt w0 g s ws note f w) (i : Nat) (hi : i < s.size) (hf : 0 ≤ f) (hfi : f ≤ i) (hx : ((s[i]).toNat : Int) = 40) (hl : ws.length ≤ 100000000) (hs : s.size ≤ 1000000000) :
    Calls Tryd.prog 20 #[.pointer (some ⟨g, 0, none⟩), .int .i64 (i : Int)] w fun e w' => e = .returned (.bool true) ∧ Aside0 (LexSt w0 g s (cutW s ws f i ++ [⟨s.extract i (i + 1), (i : Int)⟩]) note (-1) w') := by
  have HH := Aside0.mk h
  obtain ⟨v, hb, hr, hbl, hg⟩ := h
  have c0 : w.cell? ⟨g, 0, none⟩ = some v := blk_cell hb 0
  have c1 : w.cell? ⟨g, 1, none⟩ = some (.string note) := blk_cell hb 1
  have c2 : w.cell? ⟨g, 2, none⟩ = some (.string s) := blk_cell hb 2
  have c3 : w.cell? ⟨g, 3, none⟩ = some (.int .i64 f) := blk_cell hb 3
  have f1 : w.frozen? ⟨g, 1, none⟩ = false := blk_frozen hb 1
  have f3 : w.frozen? ⟨g, 3, none⟩ = false := blk_frozen hb 3
  have hi' : (i : Int) ≤ (s.size : Int) := by omega
  have hi2 : (i : Int) < (s.size : Int) := by omega
  have hi0 : (0 : Int) ≤ (i : Int) := by omega
  have HG := Aside0.mk hg
  clear hb hr hbl hg
  have d0 : decide (f < 0) = false := decide_eq_false (by omega)
  have HF : Aside0 (f < 0 ∨ (0 ≤ f ∧ f ≤ (i : Int))) := ⟨.inr ⟨hf, hfi⟩⟩
  clear hf hfi
  have HN : Aside0 (ws.length ≤ 1000000000) := ⟨by omega⟩
  have HN2 : Aside0 ((cutW s ws f i).length ≤ 1000000000) := ⟨by have := cutW_le s ws f i; omega⟩
  have HW : Aside0 (IntKind.i64.wrap ((i : Int) + 1) = (i : Int) + 1) := ⟨by rw [IntKind.wrap_i64]; omega⟩
  clear hl hs
  have e40 : (((s[i]).toNat : Int) == 40) = true := by rw [hx]; decide
  have e41 : (((s[i]).toNat : Int) == 41) = false := by rw [hx]; decide
  have e91 : (((s[i]).toNat : Int) == 91) = false := by rw [hx]; decide
  have e93 : (((s[i]).toNat : Int) == 93) = false := by rw [hx]; decide
  have e44 : (((s[i]).toNat : Int) == 44) = false := by rw [hx]; decide
  have e32 : (((s[i]).toNat : Int) == 32) = false := by rw [hx]; decide
  have e9 : (((s[i]).toNat : Int) == 9) = false := by rw [hx]; decide
  clear hx
  go_enter Tryd.func20, Tryd.ntmps20
  go_upto_region 13 with (first
    | fail | (go_at_call 21; (with_reducible refine (cut_any HH.out (i : Int) HF.out (by omega) HN.out).mono ?_); rintro e w' ⟨rfl, HC⟩))
  clear c0 c1 c2 c3 f1 f3 HH
  have hw1 := HW.out
  have hw2 : (i : Int) ≤ (i : Int) + 1 := by omega
  have hw3 : (i : Int) + 1 ≤ (s.size : Int) := by omega
  obtain ⟨v, hb, hr, hbl, hg⟩ := HC.out
  have HB := Aside0.mk hb
  have HR := Aside0.mk hr
  have HL := Aside0.mk hbl
  clear hb hr hbl hg HC
  refine Q.wp_held_tail (LexV w0 g v s (cutW s ws f i) note (-1)) 17 (by kernel_rfl) (by kernel_rfl) (v := ?_) rfl (fun d _ _ _ _ h => by cases d <;> exact h) (Or.inl ⟨by rfl, ?_⟩) ⟨blk_drew HB.out, Kd.R_drew HR.out, HL.out.drew, HG.out⟩ rfl ?_
  rotate_left
  · intro w; go_simp; (try (with_reducible rfl))
  simp only [List.take_succ_cons, List.take_zero, List.drop_succ_cons, List.drop_zero, Act.put, List.setIfInBounds_toArray, List.set_cons_zero, List.set_cons_succ]
  repeat (refine Q.held_cons (v := ?_) (Or.inl ⟨by rfl, ?_⟩) ?_; rotate_left; (focus (intro W hW; have c0 : W.cell? ⟨g, 0, none⟩ = some v := blk_cell hW.1 0; have c2 : W.cell? ⟨g, 2, none⟩ = some (.string s) := blk_cell hW.1 2; go_simp; try with_reducible rfl)); (simp only [Act.put, List.setIfInBounds_toArray, List.set_cons_zero, List.set_cons_succ]))
  refine Q.held_nil ?_
  clear HB HR HL
  intro W hW
  refine ⟨?_, ?_, by rfl, ?_, ?_, ?_⟩
  rotate_left 2
  · go_simp
    refine ⟨?_, ?_⟩ <;> with_reducible rfl
  · exact ⟨blk_alloc hW.1 _, Kd.R_alloc hW.2.1 _, hW.2.2.1.alloc (hW.2.2.1.size) _, hW.2.2.2⟩
  simp only [Act.put, List.setIfInBounds_toArray, List.set_cons_zero, List.set_cons_succ]
  go_upto_region 14 with ((with_reducible refine gate_builtin (b := .append) (xs := #[.tmp 52, .tmp 63]) rfl ?_); at_builtin; refine Kd.R_append k47 (w0 := w0) w0.heap.size rfl (.tmp 52) (.tmp 63) 23 47 (.agg #[(.string ⟨#[]⟩), (.int .i64 0)]) 24 rfl Tryd.underlying23 info47 rfl (by decide) (by omega) v (cutW s ws f i) (⟨s.extract i (i + 1), (i : Int)⟩ : S47) [.string (s.extract i (i + 1)), .int .i64 (i : Int)] (fun _ => True) (fun _ => False) rfl rfl ?aP (fun _ hk => hk.elim) ?aF ?aO ?aB ?aS ?aL ?_; (case aP => exact k47_mkM _ _ _ (⟨s.extract i (i + 1), (i : Int)⟩ : S47)); (case aB => exact hW.2.2.1); (case aF => exact (fun _ _ => trivial)); (case aO => exact hW.2.1); (case aS => exact hW.2.2.1.size); (case aL => have := HN2.out; omega); intro v1 w1 ho hb hg hat; have HB1 := Aside0.mk (blk_grown hW.1 hg (Kd.R_ne hW.2.1 hW.1 (by decide))); have HR1 := Aside0.mk ho; have HL1 := Aside0.mk hb; have c0 : w1.cell? ⟨g, 0, none⟩ = some v := blk_cell HB1.out 0; have f0 : w1.frozen? ⟨g, 0, none⟩ = false := blk_frozen HB1.out 0; clear hb hg hat; obtain ⟨A1, q1, e1⟩ := Kd.R_slice ho; subst e1; clear ho)
  have HD : Aside0 (LexSt w0 g s (cutW s ws f i ++ [⟨s.extract i (i + 1), (i : Int)⟩]) note (-1) (w1.setCell ⟨g, 0, none⟩ (.slice A1 ((cutW s ws f i).length + 1) q1))) := by
    refine ⟨.slice A1 _ q1, ?_, Kd.R_set HR1.out HB1.out (by decide) 0 _, HL1.out.setCell HG.out _, HG.out⟩
    exact (blk_set HB1.out 0 _).trans (by rw [List.length_append]; rfl)
  clear c0 f0 HB1 HR1 HL1 hW
  go_wp2_with (go_at_call 21; (with_reducible refine (cut_neg HD.out (i : Int) (by omega)).mono ?_); rintro e w' ⟨rfl, HE⟩)
  go_ret
  exact ⟨rfl, HE⟩
set_option maxHeartbeats 8000000 in
set_option maxRecDepth 100000 in
theorem take_sep1_41 {w0 w : World} {g : Nat} {s note : ByteArray} {ws : List S47} {f : Int} (h : LexSt w0 g s ws note f w) (i : Nat) (hi : i < s.size) (hf : 0 ≤ f) (hfi : f ≤ i) (hx : ((s[i]).toNat : Int) = 41) (hl : ws.length ≤ 100000000) (hs : s.size ≤ 1000000000) :
    Calls Tryd.prog 20 #[.pointer (some ⟨g, 0, none⟩), .int .i64 (i : Int)] w fun e w' => e = .returned (.bool true) ∧ Aside0 (LexSt w0 g s (cutW s ws f i ++ [⟨s.extract i (i + 1), (i : Int)⟩]) note (-1) w') := by
  have HH := Aside0.mk h
  obtain ⟨v, hb, hr, hbl, hg⟩ := h
  have c0 : w.cell? ⟨g, 0, none⟩ = some v := blk_cell hb 0
  have c1 : w.cell? ⟨g, 1, none⟩ = some (.string note) := blk_cell hb 1
  have c2 : w.cell? ⟨g, 2, none⟩ = some (.string s) := blk_cell hb 2
  have c3 : w.cell? ⟨g, 3, none⟩ = some (.int .i64 f) := blk_cell hb 3
  have f1 : w.frozen? ⟨g, 1, none⟩ = false := blk_frozen hb 1
  have f3 : w.frozen? ⟨g, 3, none⟩ = false := blk_frozen hb 3
  have hi' : (i : Int) ≤ (s.size : Int) := by omega
  have hi2 : (i : Int) < (s.size : Int) := by omega
  have hi0 : (0 : Int) ≤ (i : Int) := by omega
  have HG := Aside0.mk hg
  clear hb hr hbl hg
  have d0 : decide (f < 0) = false := decide_eq_false (by omega)
  have HF : Aside0 (f < 0 ∨ (0 ≤ f ∧ f ≤ (i : Int))) := ⟨.inr ⟨hf, hfi⟩⟩
  clear hf hfi
  have HN : Aside0 (ws.length ≤ 1000000000) := ⟨by omega⟩
  have HN2 : Aside0 ((cutW s ws f i).length ≤ 1000000000) := ⟨by have := cutW_le s ws f i; omega⟩
  have HW : Aside0 (IntKind.i64.wrap ((i : Int) + 1) = (i : Int) + 1) := ⟨by rw [IntKind.wrap_i64]; omega⟩
  clear hl hs
  have e40 : (((s[i]).toNat : Int) == 40) = false := by rw [hx]; decide
  have e41 : (((s[i]).toNat : Int) == 41) = true := by rw [hx]; decide
  have e91 : (((s[i]).toNat : Int) == 91) = false := by rw [hx]; decide
  have e93 : (((s[i]).toNat : Int) == 93) = false := by rw [hx]; decide
  have e44 : (((s[i]).toNat : Int) == 44) = false := by rw [hx]; decide
  have e32 : (((s[i]).toNat : Int) == 32) = false := by rw [hx]; decide
  have e9 : (((s[i]).toNat : Int) == 9) = false := by rw [hx]; decide
  clear hx
  go_enter Tryd.func20, Tryd.ntmps20
  go_upto_region 13 with (first
    | fail | (go_at_call 21; (with_reducible refine (cut_any HH.out (i : Int) HF.out (by omega) HN.out).mono ?_); rintro e w' ⟨rfl, HC⟩))
  clear c0 c1 c2 c3 f1 f3 HH
  have hw1 := HW.out
  have hw2 : (i : Int) ≤ (i : Int) + 1 := by omega
  have hw3 : (i : Int) + 1 ≤ (s.size : Int) := by omega
  obtain ⟨v, hb, hr, hbl, hg⟩ := HC.out
  have HB := Aside0.mk hb
  have HR := Aside0.mk hr
  have HL := Aside0.mk hbl
  clear hb hr hbl hg HC
  refine Q.wp_held_tail (LexV w0 g v s (cutW s ws f i) note (-1)) 17 (by kernel_rfl) (by kernel_rfl) (v := ?_) rfl (fun d _ _ _ _ h => by cases d <;> exact h) (Or.inl ⟨by rfl, ?_⟩) ⟨blk_drew HB.out, Kd.R_drew HR.out, HL.out.drew, HG.out⟩ rfl ?_
  rotate_left
  · intro w; go_simp; (try (with_reducible rfl))
  simp only [List.take_succ_cons, List.take_zero, List.drop_succ_cons, List.drop_zero, Act.put, List.setIfInBounds_toArray, List.set_cons_zero, List.set_cons_succ]
  repeat (refine Q.held_cons (v := ?_) (Or.inl ⟨by rfl, ?_⟩) ?_; rotate_left; (focus (intro W hW; have c0 : W.cell? ⟨g, 0, none⟩ = some v := blk_cell hW.1 0; have c2 : W.cell? ⟨g, 2, none⟩ = some (.string s) := blk_cell hW.1 2; go_simp; try with_reducible rfl)); (simp only [Act.put, List.setIfInBounds_toArray, List.set_cons_zero, List.set_cons_succ]))
  refine Q.held_nil ?_
  clear HB HR HL
  intro W hW
  refine ⟨?_, ?_, by rfl, ?_, ?_, ?_⟩
  rotate_left 2
  · go_simp
    refine ⟨?_, ?_⟩ <;> with_reducible rfl
  · exact ⟨blk_alloc hW.1 _, Kd.R_alloc hW.2.1 _, hW.2.2.1.alloc (hW.2.2.1.size) _, hW.2.2.2⟩
  simp only [Act.put, List.setIfInBounds_toArray, List.set_cons_zero, List.set_cons_succ]
  go_upto_region 14 with ((with_reducible refine gate_builtin (b := .append) (xs := #[.tmp 52, .tmp 63]) rfl ?_); at_builtin; refine Kd.R_append k47 (w0 := w0) w0.heap.size rfl (.tmp 52) (.tmp 63) 23 47 (.agg #[(.string ⟨#[]⟩), (.int .i64 0)]) 24 rfl Tryd.underlying23 info47 rfl (by decide) (by omega) v (cutW s ws f i) (⟨s.extract i (i + 1), (i : Int)⟩ : S47) [.string (s.extract i (i + 1)), .int .i64 (i : Int)] (fun _ => True) (fun _ => False) rfl rfl ?aP (fun _ hk => hk.elim) ?aF ?aO ?aB ?aS ?aL ?_; (case aP => exact k47_mkM _ _ _ (⟨s.extract i (i + 1), (i : Int)⟩ : S47)); (case aB => exact hW.2.2.1); (case aF => exact (fun _ _ => trivial)); (case aO => exact hW.2.1); (case aS => exact hW.2.2.1.size); (case aL => have := HN2.out; omega); intro v1 w1 ho hb hg hat; have HB1 := Aside0.mk (blk_grown hW.1 hg (Kd.R_ne hW.2.1 hW.1 (by decide))); have HR1 := Aside0.mk ho; have HL1 := Aside0.mk hb; have c0 : w1.cell? ⟨g, 0, none⟩ = some v := blk_cell HB1.out 0; have f0 : w1.frozen? ⟨g, 0, none⟩ = false := blk_frozen HB1.out 0; clear hb hg hat; obtain ⟨A1, q1, e1⟩ := Kd.R_slice ho; subst e1; clear ho)
  have HD : Aside0 (LexSt w0 g s (cutW s ws f i ++ [⟨s.extract i (i + 1), (i : Int)⟩]) note (-1) (w1.setCell ⟨g, 0, none⟩ (.slice A1 ((cutW s ws f i).length + 1) q1))) := by
    refine ⟨.slice A1 _ q1, ?_, Kd.R_set HR1.out HB1.out (by decide) 0 _, HL1.out.setCell HG.out _, HG.out⟩
    exact (blk_set HB1.out 0 _).trans (by rw [List.length_append]; rfl)
  clear c0 f0 HB1 HR1 HL1 hW
  go_wp2_with (go_at_call 21; (with_reducible refine (cut_neg HD.out (i : Int) (by omega)).mono ?_); rintro e w' ⟨rfl, HE⟩)
  go_ret
  exact ⟨rfl, HE⟩
set_option maxHeartbeats 8000000 in
set_option maxRecDepth 100000 in
theorem take_sep1_91 {w0 w : World} {g : Nat} {s note : ByteArray} {ws : List S47} {f : Int} (h : LexSt w0 g s ws note f w) (i : Nat) (hi : i < s.size) (hf : 0 ≤ f) (hfi : f ≤ i) (hx : ((s[i]).toNat : Int) = 91) (hl : ws.length ≤ 100000000) (hs : s.size ≤ 1000000000) :
    Calls Tryd.prog 20 #[.pointer (some ⟨g, 0, none⟩), .int .i64 (i : Int)] w fun e w' => e = .returned (.bool true) ∧ Aside0 (LexSt w0 g s (cutW s ws f i ++ [⟨s.extract i (i + 1), (i : Int)⟩]) note (-1) w') := by
  have HH := Aside0.mk h
  obtain ⟨v, hb, hr, hbl, hg⟩ := h
  have c0 : w.cell? ⟨g, 0, none⟩ = some v := blk_cell hb 0
  have c1 : w.cell? ⟨g, 1, none⟩ = some (.string note) := blk_cell hb 1
  have c2 : w.cell? ⟨g, 2, none⟩ = some (.string s) := blk_cell hb 2
  have c3 : w.cell? ⟨g, 3, none⟩ = some (.int .i64 f) := blk_cell hb 3
  have f1 : w.frozen? ⟨g, 1, none⟩ = false := blk_frozen hb 1
  have f3 : w.frozen? ⟨g, 3, none⟩ = false := blk_frozen hb 3
  have hi' : (i : Int) ≤ (s.size : Int) := by omega
  have hi2 : (i : Int) < (s.size : Int) := by omega
  have hi0 : (0 : Int) ≤ (i : Int) := by omega
  have HG := Aside0.mk hg
  clear hb hr hbl hg
  have d0 : decide (f < 0) = false := decide_eq_false (by omega)
  have HF : Aside0 (f < 0 ∨ (0 ≤ f ∧ f ≤ (i : Int))) := ⟨.inr ⟨hf, hfi⟩⟩
  clear hf hfi
  have HN : Aside0 (ws.length ≤ 1000000000) := ⟨by omega⟩
  have HN2 : Aside0 ((cutW s ws f i).length ≤ 1000000000) := ⟨by have := cutW_le s ws f i; omega⟩
  have HW : Aside0 (IntKind.i64.wrap ((i : Int) + 1) = (i : Int) + 1) := ⟨by rw [IntKind.wrap_i64]; omega⟩
  clear hl hs
  have e40 : (((s[i]).toNat : Int) == 40) = false := by rw [hx]; decide
  have e41 : (((s[i]).toNat : Int) == 41) = false := by rw [hx]; decide
  have e91 : (((s[i]).toNat : Int) == 91) = true := by rw [hx]; decide
  have e93 : (((s[i]).toNat : Int) == 93) = false := by rw [hx]; decide
  have e44 : (((s[i]).toNat : Int) == 44) = false := by rw [hx]; decide
  have e32 : (((s[i]).toNat : Int) == 32) = false := by rw [hx]; decide
  have e9 : (((s[i]).toNat : Int) == 9) = false := by rw [hx]; decide
  clear hx
  go_enter Tryd.func20, Tryd.ntmps20
  go_upto_region 13 with (first
    | fail | (go_at_call 21; (with_reducible refine (cut_any HH.out (i : Int) HF.out (by omega) HN.out).mono ?_); rintro e w' ⟨rfl, HC⟩))
  clear c0 c1 c2 c3 f1 f3 HH
  have hw1 := HW.out
  have hw2 : (i : Int) ≤ (i : Int) + 1 := by omega
  have hw3 : (i : Int) + 1 ≤ (s.size : Int) := by omega
  obtain ⟨v, hb, hr, hbl, hg⟩ := HC.out
  have HB := Aside0.mk hb
  have HR := Aside0.mk hr
  have HL := Aside0.mk hbl
  clear hb hr hbl hg HC
  refine Q.wp_held_tail (LexV w0 g v s (cutW s ws f i) note (-1)) 17 (by kernel_rfl) (by kernel_rfl) (v := ?_) rfl (fun d _ _ _ _ h => by cases d <;> exact h) (Or.inl ⟨by rfl, ?_⟩) ⟨blk_drew HB.out, Kd.R_drew HR.out, HL.out.drew, HG.out⟩ rfl ?_
  rotate_left
  · intro w; go_simp; (try (with_reducible rfl))
  simp only [List.take_succ_cons, List.take_zero, List.drop_succ_cons, List.drop_zero, Act.put, List.setIfInBounds_toArray, List.set_cons_zero, List.set_cons_succ]
  repeat (refine Q.held_cons (v := ?_) (Or.inl ⟨by rfl, ?_⟩) ?_; rotate_left; (focus (intro W hW; have c0 : W.cell? ⟨g, 0, none⟩ = some v := blk_cell hW.1 0; have c2 : W.cell? ⟨g, 2, none⟩ = some (.string s) := blk_cell hW.1 2; go_simp; try with_reducible rfl)); (simp only [Act.put, List.setIfInBounds_toArray, List.set_cons_zero, List.set_cons_succ]))
  refine Q.held_nil ?_
  clear HB HR HL
  intro W hW
  refine ⟨?_, ?_, by rfl, ?_, ?_, ?_⟩
  rotate_left 2
  · go_simp
    refine ⟨?_, ?_⟩ <;> with_reducible rfl
  · exact ⟨blk_alloc hW.1 _, Kd.R_alloc hW.2.1 _, hW.2.2.1.alloc (hW.2.2.1.size) _, hW.2.2.2⟩
  simp only [Act.put, List.setIfInBounds_toArray, List.set_cons_zero, List.set_cons_succ]
  go_upto_region 14 with ((with_reducible refine gate_builtin (b := .append) (xs := #[.tmp 52, .tmp 63]) rfl ?_); at_builtin; refine Kd.R_append k47 (w0 := w0) w0.heap.size rfl (.tmp 52) (.tmp 63) 23 47 (.agg #[(.string ⟨#[]⟩), (.int .i64 0)]) 24 rfl Tryd.underlying23 info47 rfl (by decide) (by omega) v (cutW s ws f i) (⟨s.extract i (i + 1), (i : Int)⟩ : S47) [.string (s.extract i (i + 1)), .int .i64 (i : Int)] (fun _ => True) (fun _ => False) rfl rfl ?aP (fun _ hk => hk.elim) ?aF ?aO ?aB ?aS ?aL ?_; (case aP => exact k47_mkM _ _ _ (⟨s.extract i (i + 1), (i : Int)⟩ : S47)); (case aB => exact hW.2.2.1); (case aF => exact (fun _ _ => trivial)); (case aO => exact hW.2.1); (case aS => exact hW.2.2.1.size); (case aL => have := HN2.out; omega); intro v1 w1 ho hb hg hat; have HB1 := Aside0.mk (blk_grown hW.1 hg (Kd.R_ne hW.2.1 hW.1 (by decide))); have HR1 := Aside0.mk ho; have HL1 := Aside0.mk hb; have c0 : w1.cell? ⟨g, 0, none⟩ = some v := blk_cell HB1.out 0; have f0 : w1.frozen? ⟨g, 0, none⟩ = false := blk_frozen HB1.out 0; clear hb hg hat; obtain ⟨A1, q1, e1⟩ := Kd.R_slice ho; subst e1; clear ho)
  have HD : Aside0 (LexSt w0 g s (cutW s ws f i ++ [⟨s.extract i (i + 1), (i : Int)⟩]) note (-1) (w1.setCell ⟨g, 0, none⟩ (.slice A1 ((cutW s ws f i).length + 1) q1))) := by
    refine ⟨.slice A1 _ q1, ?_, Kd.R_set HR1.out HB1.out (by decide) 0 _, HL1.out.setCell HG.out _, HG.out⟩
    exact (blk_set HB1.out 0 _).trans (by rw [List.length_append]; rfl)
  clear c0 f0 HB1 HR1 HL1 hW
  go_wp2_with (go_at_call 21; (with_reducible refine (cut_neg HD.out (i : Int) (by omega)).mono ?_); rintro e w' ⟨rfl, HE⟩)
  go_ret
  exact ⟨rfl, HE⟩
set_option maxHeartbeats 8000000 in
set_option maxRecDepth 100000 in
theorem take_sep1_93 {w0 w : World} {g : Nat} {s note : ByteArray} {ws : List S47} {f : Int} (h : LexSt w0 g s ws note f w) (i : Nat) (hi : i < s.size) (hf : 0 ≤ f) (hfi : f ≤ i) (hx : ((s[i]).toNat : Int) = 93) (hl : ws.length ≤ 100000000) (hs : s.size ≤ 1000000000) :
    Calls Tryd.prog 20 #[.pointer (some ⟨g, 0, none⟩), .int .i64 (i : Int)] w fun e w' => e = .returned (.bool true) ∧ Aside0 (LexSt w0 g s (cutW s ws f i ++ [⟨s.extract i (i + 1), (i : Int)⟩]) note (-1) w') := by
  have HH := Aside0.mk h
  obtain ⟨v, hb, hr, hbl, hg⟩ := h
  have c0 : w.cell? ⟨g, 0, none⟩ = some v := blk_cell hb 0
  have c1 : w.cell? ⟨g, 1, none⟩ = some (.string note) := blk_cell hb 1
  have c2 : w.cell? ⟨g, 2, none⟩ = some (.string s) := blk_cell hb 2
  have c3 : w.cell? ⟨g, 3, none⟩ = some (.int .i64 f) := blk_cell hb 3
  have f1 : w.frozen? ⟨g, 1, none⟩ = false := blk_frozen hb 1
  have f3 : w.frozen? ⟨g, 3, none⟩ = false := blk_frozen hb 3
  have hi' : (i : Int) ≤ (s.size : Int) := by omega
  have hi2 : (i : Int) < (s.size : Int) := by omega
  have hi0 : (0 : Int) ≤ (i : Int) := by omega
  have HG := Aside0.mk hg
  clear hb hr hbl hg
  have d0 : decide (f < 0) = false := decide_eq_false (by omega)
  have HF : Aside0 (f < 0 ∨ (0 ≤ f ∧ f ≤ (i : Int))) := ⟨.inr ⟨hf, hfi⟩⟩
  clear hf hfi
  have HN : Aside0 (ws.length ≤ 1000000000) := ⟨by omega⟩
  have HN2 : Aside0 ((cutW s ws f i).length ≤ 1000000000) := ⟨by have := cutW_le s ws f i; omega⟩
  have HW : Aside0 (IntKind.i64.wrap ((i : Int) + 1) = (i : Int) + 1) := ⟨by rw [IntKind.wrap_i64]; omega⟩
  clear hl hs
  have e40 : (((s[i]).toNat : Int) == 40) = false := by rw [hx]; decide
  have e41 : (((s[i]).toNat : Int) == 41) = false := by rw [hx]; decide
  have e91 : (((s[i]).toNat : Int) == 91) = false := by rw [hx]; decide
  have e93 : (((s[i]).toNat : Int) == 93) = true := by rw [hx]; decide
  have e44 : (((s[i]).toNat : Int) == 44) = false := by rw [hx]; decide
  have e32 : (((s[i]).toNat : Int) == 32) = false := by rw [hx]; decide
  have e9 : (((s[i]).toNat : Int) == 9) = false := by rw [hx]; decide
  clear hx
  go_enter Tryd.func20, Tryd.ntmps20
  go_upto_region 13 with (first
    | fail | (go_at_call 21; (with_reducible refine (cut_any HH.out (i : Int) HF.out (by omega) HN.out).mono ?_); rintro e w' ⟨rfl, HC⟩))
  clear c0 c1 c2 c3 f1 f3 HH
  have hw1 := HW.out
  have hw2 : (i : Int) ≤ (i : Int) + 1 := by omega
  have hw3 : (i : Int) + 1 ≤ (s.size : Int) := by omega
  obtain ⟨v, hb, hr, hbl, hg⟩ := HC.out
  have HB := Aside0.mk hb
  have HR := Aside0.mk hr
  have HL := Aside0.mk hbl
  clear hb hr hbl hg HC
  refine Q.wp_held_tail (LexV w0 g v s (cutW s ws f i) note (-1)) 17 (by kernel_rfl) (by kernel_rfl) (v := ?_) rfl (fun d _ _ _ _ h => by cases d <;> exact h) (Or.inl ⟨by rfl, ?_⟩) ⟨blk_drew HB.out, Kd.R_drew HR.out, HL.out.drew, HG.out⟩ rfl ?_
  rotate_left
  · intro w; go_simp; (try (with_reducible rfl))
  simp only [List.take_succ_cons, List.take_zero, List.drop_succ_cons, List.drop_zero, Act.put, List.setIfInBounds_toArray, List.set_cons_zero, List.set_cons_succ]
  repeat (refine Q.held_cons (v := ?_) (Or.inl ⟨by rfl, ?_⟩) ?_; rotate_left; (focus (intro W hW; have c0 : W.cell? ⟨g, 0, none⟩ = some v := blk_cell hW.1 0; have c2 : W.cell? ⟨g, 2, none⟩ = some (.string s) := blk_cell hW.1 2; go_simp; try with_reducible rfl)); (simp only [Act.put, List.setIfInBounds_toArray, List.set_cons_zero, List.set_cons_succ]))
  refine Q.held_nil ?_
  clear HB HR HL
  intro W hW
  refine ⟨?_, ?_, by rfl, ?_, ?_, ?_⟩
  rotate_left 2
  · go_simp
    refine ⟨?_, ?_⟩ <;> with_reducible rfl
  · exact ⟨blk_alloc hW.1 _, Kd.R_alloc hW.2.1 _, hW.2.2.1.alloc (hW.2.2.1.size) _, hW.2.2.2⟩
  simp only [Act.put, List.setIfInBounds_toArray, List.set_cons_zero, List.set_cons_succ]
  go_upto_region 14 with ((with_reducible refine gate_builtin (b := .append) (xs := #[.tmp 52, .tmp 63]) rfl ?_); at_builtin; refine Kd.R_append k47 (w0 := w0) w0.heap.size rfl (.tmp 52) (.tmp 63) 23 47 (.agg #[(.string ⟨#[]⟩), (.int .i64 0)]) 24 rfl Tryd.underlying23 info47 rfl (by decide) (by omega) v (cutW s ws f i) (⟨s.extract i (i + 1), (i : Int)⟩ : S47) [.string (s.extract i (i + 1)), .int .i64 (i : Int)] (fun _ => True) (fun _ => False) rfl rfl ?aP (fun _ hk => hk.elim) ?aF ?aO ?aB ?aS ?aL ?_; (case aP => exact k47_mkM _ _ _ (⟨s.extract i (i + 1), (i : Int)⟩ : S47)); (case aB => exact hW.2.2.1); (case aF => exact (fun _ _ => trivial)); (case aO => exact hW.2.1); (case aS => exact hW.2.2.1.size); (case aL => have := HN2.out; omega); intro v1 w1 ho hb hg hat; have HB1 := Aside0.mk (blk_grown hW.1 hg (Kd.R_ne hW.2.1 hW.1 (by decide))); have HR1 := Aside0.mk ho; have HL1 := Aside0.mk hb; have c0 : w1.cell? ⟨g, 0, none⟩ = some v := blk_cell HB1.out 0; have f0 : w1.frozen? ⟨g, 0, none⟩ = false := blk_frozen HB1.out 0; clear hb hg hat; obtain ⟨A1, q1, e1⟩ := Kd.R_slice ho; subst e1; clear ho)
  have HD : Aside0 (LexSt w0 g s (cutW s ws f i ++ [⟨s.extract i (i + 1), (i : Int)⟩]) note (-1) (w1.setCell ⟨g, 0, none⟩ (.slice A1 ((cutW s ws f i).length + 1) q1))) := by
    refine ⟨.slice A1 _ q1, ?_, Kd.R_set HR1.out HB1.out (by decide) 0 _, HL1.out.setCell HG.out _, HG.out⟩
    exact (blk_set HB1.out 0 _).trans (by rw [List.length_append]; rfl)
  clear c0 f0 HB1 HR1 HL1 hW
  go_wp2_with (go_at_call 21; (with_reducible refine (cut_neg HD.out (i : Int) (by omega)).mono ?_); rintro e w' ⟨rfl, HE⟩)
  go_ret
  exact ⟨rfl, HE⟩
set_option maxHeartbeats 8000000 in
set_option maxRecDepth 100000 in
theorem take_sep1_44 {w0 w : World} {g : Nat} {s note : ByteArray} {ws : List S47} {f : Int} (h : LexSt w0 g s ws note f w) (i : Nat) (hi : i < s.size) (hf : 0 ≤ f) (hfi : f ≤ i) (hx : ((s[i]).toNat : Int) = 44) (hl : ws.length ≤ 100000000) (hs : s.size ≤ 1000000000) :
    Calls Tryd.prog 20 #[.pointer (some ⟨g, 0, none⟩), .int .i64 (i : Int)] w fun e w' => e = .returned (.bool true) ∧ Aside0 (LexSt w0 g s (cutW s ws f i ++ [⟨s.extract i (i + 1), (i : Int)⟩]) note (-1) w') := by
  have HH := Aside0.mk h
  obtain ⟨v, hb, hr, hbl, hg⟩ := h
  have c0 : w.cell? ⟨g, 0, none⟩ = some v := blk_cell hb 0
  have c1 : w.cell? ⟨g, 1, none⟩ = some (.string note) := blk_cell hb 1
  have c2 : w.cell? ⟨g, 2, none⟩ = some (.string s) := blk_cell hb 2
  have c3 : w.cell? ⟨g, 3, none⟩ = some (.int .i64 f) := blk_cell hb 3
  have f1 : w.frozen? ⟨g, 1, none⟩ = false := blk_frozen hb 1
  have f3 : w.frozen? ⟨g, 3, none⟩ = false := blk_frozen hb 3
  have hi' : (i : Int) ≤ (s.size : Int) := by omega
  have hi2 : (i : Int) < (s.size : Int) := by omega
  have hi0 : (0 : Int) ≤ (i : Int) := by omega
  have HG := Aside0.mk hg
  clear hb hr hbl hg
  have d0 : decide (f < 0) = false := decide_eq_false (by omega)
  have HF : Aside0 (f < 0 ∨ (0 ≤ f ∧ f ≤ (i : Int))) := ⟨.inr ⟨hf, hfi⟩⟩
  clear hf hfi
  have HN : Aside0 (ws.length ≤ 1000000000) := ⟨by omega⟩
  have HN2 : Aside0 ((cutW s ws f i).length ≤ 1000000000) := ⟨by have := cutW_le s ws f i; omega⟩
  have HW : Aside0 (IntKind.i64.wrap ((i : Int) + 1) = (i : Int) + 1) := ⟨by rw [IntKind.wrap_i64]; omega⟩
  clear hl hs
  have e40 : (((s[i]).toNat : Int) == 40) = false := by rw [hx]; decide
  have e41 : (((s[i]).toNat : Int) == 41) = false := by rw [hx]; decide
  have e91 : (((s[i]).toNat : Int) == 91) = false := by rw [hx]; decide
  have e93 : (((s[i]).toNat : Int) == 93) = false := by rw [hx]; decide
  have e44 : (((s[i]).toNat : Int) == 44) = true := by rw [hx]; decide
  have e32 : (((s[i]).toNat : Int) == 32) = false := by rw [hx]; decide
  have e9 : (((s[i]).toNat : Int) == 9) = false := by rw [hx]; decide
  clear hx
  go_enter Tryd.func20, Tryd.ntmps20
  go_upto_region 13 with (first
    | fail | (go_at_call 21; (with_reducible refine (cut_any HH.out (i : Int) HF.out (by omega) HN.out).mono ?_); rintro e w' ⟨rfl, HC⟩))
  clear c0 c1 c2 c3 f1 f3 HH
  have hw1 := HW.out
  have hw2 : (i : Int) ≤ (i : Int) + 1 := by omega
  have hw3 : (i : Int) + 1 ≤ (s.size : Int) := by omega
  obtain ⟨v, hb, hr, hbl, hg⟩ := HC.out
  have HB := Aside0.mk hb
  have HR := Aside0.mk hr
  have HL := Aside0.mk hbl
  clear hb hr hbl hg HC
  refine Q.wp_held_tail (LexV w0 g v s (cutW s ws f i) note (-1)) 17 (by kernel_rfl) (by kernel_rfl) (v := ?_) rfl (fun d _ _ _ _ h => by cases d <;> exact h) (Or.inl ⟨by rfl, ?_⟩) ⟨blk_drew HB.out, Kd.R_drew HR.out, HL.out.drew, HG.out⟩ rfl ?_
  rotate_left
  · intro w; go_simp; (try (with_reducible rfl))
  simp only [List.take_succ_cons, List.take_zero, List.drop_succ_cons, List.drop_zero, Act.put, List.setIfInBounds_toArray, List.set_cons_zero, List.set_cons_succ]
  repeat (refine Q.held_cons (v := ?_) (Or.inl ⟨by rfl, ?_⟩) ?_; rotate_left; (focus (intro W hW; have c0 : W.cell? ⟨g, 0, none⟩ = some v := blk_cell hW.1 0; have c2 : W.cell? ⟨g, 2, none⟩ = some (.string s) := blk_cell hW.1 2; go_simp; try with_reducible rfl)); (simp only [Act.put, List.setIfInBounds_toArray, List.set_cons_zero, List.set_cons_succ]))
  refine Q.held_nil ?_
  clear HB HR HL
  intro W hW
  refine ⟨?_, ?_, by rfl, ?_, ?_, ?_⟩
  rotate_left 2
  · go_simp
    refine ⟨?_, ?_⟩ <;> with_reducible rfl
  · exact ⟨blk_alloc hW.1 _, Kd.R_alloc hW.2.1 _, hW.2.2.1.alloc (hW.2.2.1.size) _, hW.2.2.2⟩
  simp only [Act.put, List.setIfInBounds_toArray, List.set_cons_zero, List.set_cons_succ]
  go_upto_region 14 with ((with_reducible refine gate_builtin (b := .append) (xs := #[.tmp 52, .tmp 63]) rfl ?_); at_builtin; refine Kd.R_append k47 (w0 := w0) w0.heap.size rfl (.tmp 52) (.tmp 63) 23 47 (.agg #[(.string ⟨#[]⟩), (.int .i64 0)]) 24 rfl Tryd.underlying23 info47 rfl (by decide) (by omega) v (cutW s ws f i) (⟨s.extract i (i + 1), (i : Int)⟩ : S47) [.string (s.extract i (i + 1)), .int .i64 (i : Int)] (fun _ => True) (fun _ => False) rfl rfl ?aP (fun _ hk => hk.elim) ?aF ?aO ?aB ?aS ?aL ?_; (case aP => exact k47_mkM _ _ _ (⟨s.extract i (i + 1), (i : Int)⟩ : S47)); (case aB => exact hW.2.2.1); (case aF => exact (fun _ _ => trivial)); (case aO => exact hW.2.1); (case aS => exact hW.2.2.1.size); (case aL => have := HN2.out; omega); intro v1 w1 ho hb hg hat; have HB1 := Aside0.mk (blk_grown hW.1 hg (Kd.R_ne hW.2.1 hW.1 (by decide))); have HR1 := Aside0.mk ho; have HL1 := Aside0.mk hb; have c0 : w1.cell? ⟨g, 0, none⟩ = some v := blk_cell HB1.out 0; have f0 : w1.frozen? ⟨g, 0, none⟩ = false := blk_frozen HB1.out 0; clear hb hg hat; obtain ⟨A1, q1, e1⟩ := Kd.R_slice ho; subst e1; clear ho)
  have HD : Aside0 (LexSt w0 g s (cutW s ws f i ++ [⟨s.extract i (i + 1), (i : Int)⟩]) note (-1) (w1.setCell ⟨g, 0, none⟩ (.slice A1 ((cutW s ws f i).length + 1) q1))) := by
    refine ⟨.slice A1 _ q1, ?_, Kd.R_set HR1.out HB1.out (by decide) 0 _, HL1.out.setCell HG.out _, HG.out⟩
    exact (blk_set HB1.out 0 _).trans (by rw [List.length_append]; rfl)
  clear c0 f0 HB1 HR1 HL1 hW
  go_wp2_with (go_at_call 21; (with_reducible refine (cut_neg HD.out (i : Int) (by omega)).mono ?_); rintro e w' ⟨rfl, HE⟩)
  go_ret
  exact ⟨rfl, HE⟩
end Go.Proofs.YtonjofjdmlblfaaDoor.P
