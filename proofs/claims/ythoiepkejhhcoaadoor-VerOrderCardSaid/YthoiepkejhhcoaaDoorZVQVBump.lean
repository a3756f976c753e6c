/- ver: Bump, walked. -/
import Derived.Test.YthoiepkejhhcoaaDoorZVQVParse
namespace Go.Proofs.YthoiepkejhhcoaaDoor.P
open Go.RowKit Go.Proofs.YthoiepkejhhcoaaDoorW.PrintWords Go.Proofs.YthoiepkejhhcoaaDoorW.PrintLast Go.Proofs.YthoiepkejhhcoaaDoorW.PrintMore
attribute [local go_sem] max2_int min2_int max_two min_two max_three min_three max_four min_four
set_option linter.unusedVariables false
set_option linter.unusedSimpArgs false
def ver5 (a b c : Int) (p q : ByteArray) : Array Value := #[.int .i64 a, .int .i64 b, .int .i64 c, .string p, .string q]
structure BE (w W : World) (a b c : Int) (p q : ByteArray) : Prop where
  v : W.heap[w.heap.size]? = some (.cells (ver5 a b c p q) 23 (0, 0))
  r : W.heap[w.heap.size + 1]? = some (.cells zv 23 (0, 0))
  b : Below w.heap.size w W
theorem BE.new (w : World) (a b c : Int) (p q : ByteArray) : BE w ((w.alloc (.cells (ver5 a b c p q) 23 (0, 0))).alloc (.cells zv 23 (0, 0))) a b c p q := by
  refine ⟨blk_alloc (blk_new w _) _, ?_, ((Below.refl _ w).alloc (Nat.le_refl _) _).alloc (by simp) _⟩
  have := blk_new (w.alloc (.cells (ver5 a b c p q) 23 (0, 0))) (.cells zv 23 (0, 0))
  rwa [World.size_alloc] at this
theorem BE.below {w W W' : World} {a b c : Int} {p q : ByteArray} (h : BE w W a b c p q) (hb : Below W.heap.size W W') : BE w W' a b c p q := ⟨blk_below h.v hb, blk_below h.r hb, below_step h.b hb⟩
theorem BE.rcells {w W : World} {a b c : Int} {p q : ByteArray} (h : BE w W a b c p q) : (W.cell? ⟨w.heap.size + 1, 0, none⟩ = some (.int .i64 0) ∧ W.cell? ⟨w.heap.size + 1, 1, none⟩ = some (.int .i64 0) ∧ W.cell? ⟨w.heap.size + 1, 2, none⟩ = some (.int .i64 0) ∧ W.cell? ⟨w.heap.size + 1, 3, none⟩ = some (.string ⟨#[]⟩) ∧ W.cell? ⟨w.heap.size + 1, 4, none⟩ = some (.string ⟨#[]⟩)) ∧
    W.frozen? ⟨w.heap.size + 1, 0, none⟩ = false ∧ W.frozen? ⟨w.heap.size + 1, 1, none⟩ = false ∧ W.frozen? ⟨w.heap.size + 1, 2, none⟩ = false ∧ W.frozen? ⟨w.heap.size + 1, 3, none⟩ = false ∧ W.frozen? ⟨w.heap.size + 1, 4, none⟩ = false :=
  ⟨⟨blk_cell h.r 0, blk_cell h.r 1, blk_cell h.r 2, blk_cell h.r 3, blk_cell h.r 4⟩, blk_frozen h.r 0, blk_frozen h.r 1, blk_frozen h.r 2, blk_frozen h.r 3, blk_frozen h.r 4⟩
theorem BE.vcells {w W : World} {a b c : Int} {p q : ByteArray} (h : BE w W a b c p q) : W.cell? ⟨w.heap.size, 0, none⟩ = some (.int .i64 a) ∧ W.cell? ⟨w.heap.size, 1, none⟩ = some (.int .i64 b) ∧ W.cell? ⟨w.heap.size, 2, none⟩ = some (.int .i64 c) ∧ W.cell? ⟨w.heap.size, 3, none⟩ = some (.string p) ∧ W.cell? ⟨w.heap.size, 4, none⟩ = some (.string q) :=
  ⟨blk_cell h.v 0, blk_cell h.v 1, blk_cell h.v 2, blk_cell h.v 3, blk_cell h.v 4⟩
theorem BE.fill {w W : World} {a b c : Int} {p q : ByteArray} (h : BE w W a b c p q) (x y z : Int) (s t : ByteArray) :
    (((((W.setCell ⟨w.heap.size + 1, 0, none⟩ (.int .i64 x)).setCell ⟨w.heap.size + 1, 1, none⟩ (.int .i64 y)).setCell ⟨w.heap.size + 1, 2, none⟩ (.int .i64 z)).setCell ⟨w.heap.size + 1, 3, none⟩ (.string s)).setCell ⟨w.heap.size + 1, 4, none⟩ (.string t)).heap[w.heap.size + 1]? = some (.cells #[.int .i64 x, .int .i64 y, .int .i64 z, .string s, .string t] 23 (0, 0)) ∧
    Below w.heap.size w (((((W.setCell ⟨w.heap.size + 1, 0, none⟩ (.int .i64 x)).setCell ⟨w.heap.size + 1, 1, none⟩ (.int .i64 y)).setCell ⟨w.heap.size + 1, 2, none⟩ (.int .i64 z)).setCell ⟨w.heap.size + 1, 3, none⟩ (.string s)).setCell ⟨w.heap.size + 1, 4, none⟩ (.string t)) := by
  have h1 := blk_put h.r 0 (.int .i64 x) (cs' := #[.int .i64 x, .int .i64 0, .int .i64 0, .string ⟨#[]⟩, .string ⟨#[]⟩]) rfl
  have h2 := blk_put h1 1 (.int .i64 y) (cs' := #[.int .i64 x, .int .i64 y, .int .i64 0, .string ⟨#[]⟩, .string ⟨#[]⟩]) rfl
  have h3 := blk_put h2 2 (.int .i64 z) (cs' := #[.int .i64 x, .int .i64 y, .int .i64 z, .string ⟨#[]⟩, .string ⟨#[]⟩]) rfl
  have h4 := blk_put h3 3 (.string s) (cs' := #[.int .i64 x, .int .i64 y, .int .i64 z, .string s, .string ⟨#[]⟩]) rfl
  exact ⟨blk_put h4 4 (.string t) rfl, ((((h.b.setCell (by simp) _).setCell (by simp) _).setCell (by simp) _).setCell (by simp) _).setCell (by simp) _⟩
theorem res17 {tmps : Array Value} {W : World} {r : Nat} {a b c : Int} {p q : ByteArray} {x : Int} (h : W.heap[r]? = some (.cells #[.int .i64 a, .int .i64 b, .int .i64 c, .string p, .string q] 23 (0, 0))) (ht2 : tmps.getD 4 undef = .pointer (some ⟨r, 0, none⟩)) (ht3 : tmps.getD 5 undef = .int .i64 x) :
    (results Tryd.f17 tmps).run Tryd.prog W = .ok (.tuple #[.agg #[.int .i64 a, .int .i64 b, .int .i64 c, .string p, .string q], .int .i64 x]) W := by
  have h0 : W.cell? ⟨r, 0, none⟩ = some (.int .i64 a) := blk_cell h 0
  have h1 : W.cell? ⟨r, 1, none⟩ = some (.int .i64 b) := blk_cell h 1
  have h2 : W.cell? ⟨r, 2, none⟩ = some (.int .i64 c) := blk_cell h 2
  have h3 : W.cell? ⟨r, 3, none⟩ = some (.string p) := blk_cell h 3
  have h4 : W.cell? ⟨r, 4, none⟩ = some (.string q) := blk_cell h 4
  have e : Tryd.f17.results = #[.cell 4 23, .tmp 5] := rfl
  unfold results
  rw [e]
  simp only [List.mapM_toArray, Array.mapM_eq_mapM_toList, List.mapM_cons, List.mapM_nil, ht2, ht3]
  go_simp
theorem num_bd {n : Int} (h : numB n = true) : 0 ≤ n ∧ n ≤ 999999999 := by
  unfold numB at h
  simpa using h
def BTold (w : World) (x y z er : Int) (e : Ending) (w' : World) : Prop := e = .returned (.tuple #[.agg #[.int .i64 x, .int .i64 y, .int .i64 z, .string ⟨#[]⟩, .string ⟨#[]⟩], .int .i64 er]) ∧ Below w.heap.size w w'
set_option maxHeartbeats 4000000 in
set_option maxRecDepth 100000 in
theorem bump_arg (a b c l : Int) (p q : ByteArray) (hl : p.size ≤ 1000000 ∧ q.size ≤ 1000000) (w : World) (h : checkB a b c p q = false) : Calls Tryd.prog 17 #[.agg #[.int .i64 a, .int .i64 b, .int .i64 c, .string p, .string q], .int .i64 l] w (BTold w 0 0 0 1) := by
  have HL := Aside0.mk hl
  have HB := Aside0.mk (BE.new w a b c p q)
  clear hl
  go_enter Tryd.func17, Tryd.ntmps17
  go_upto_region 2 with (first
    | (go_at_call 13; (with_reducible refine (check_any a b c p q HL.out.1 HL.out.2 _).mono ?_); rintro e w1 ⟨rfl, hb⟩; have HE := Aside0.mk (HB.out.below hb); clear hb HB))
  obtain ⟨⟨k0, k1, k2, k3, k4⟩, f0, f1, f2, f3, f4⟩ := HE.out.rcells
  have HF := Aside0.mk (HE.out.fill 0 0 0 ⟨#[]⟩ ⟨#[]⟩)
  go_wp2
  (try simp only [Exit.inBlock, Exit.then])
  exact bodyPost_ret (res17 (r := w.heap.size + 1) (a := 0) (b := 0) (c := 0) (p := ⟨#[]⟩) (q := ⟨#[]⟩) (x := 1) HF.out.1 rfl rfl) rfl ⟨rfl, HF.out.2⟩
/-- The next version, in a block of its own, beside these two. -/
structure NE (w W : World) (gn : Nat) (a b c : Int) (p q : ByteArray) (x y z : Int) : Prop where
  e : BE w W a b c p q
  n : W.heap[gn]? = some (.cells (ver5 x y z ⟨#[]⟩ ⟨#[]⟩) 23 (0, 0))
  g : w.heap.size + 1 < gn
theorem NE.new {w W : World} {a b c : Int} {p q : ByteArray} (h : BE w W a b c p q) : NE w (W.alloc (.cells (ver5 a b c ⟨#[]⟩ ⟨#[]⟩) 23 (0, 0))) W.heap.size a b c p q a b c :=
  ⟨h.below ((Below.refl _ _).alloc (Nat.le_refl _) _), blk_new W _, heap_lt' h.r⟩
theorem NE.ncells {w W : World} {gn : Nat} {a b c : Int} {p q : ByteArray} {x y z : Int} (h : NE w W gn a b c p q x y z) : (W.cell? ⟨gn, 0, none⟩ = some (.int .i64 x) ∧ W.cell? ⟨gn, 1, none⟩ = some (.int .i64 y) ∧ W.cell? ⟨gn, 2, none⟩ = some (.int .i64 z) ∧ W.cell? ⟨gn, 3, none⟩ = some (.string ⟨#[]⟩) ∧ W.cell? ⟨gn, 4, none⟩ = some (.string ⟨#[]⟩)) ∧
    W.frozen? ⟨gn, 0, none⟩ = false ∧ W.frozen? ⟨gn, 1, none⟩ = false ∧ W.frozen? ⟨gn, 2, none⟩ = false ∧ W.frozen? ⟨gn, 3, none⟩ = false ∧ W.frozen? ⟨gn, 4, none⟩ = false :=
  ⟨⟨blk_cell h.n 0, blk_cell h.n 1, blk_cell h.n 2, blk_cell h.n 3, blk_cell h.n 4⟩, blk_frozen h.n 0, blk_frozen h.n 1, blk_frozen h.n 2, blk_frozen h.n 3, blk_frozen h.n 4⟩
theorem NE.drewN {w W : World} {gn : Nat} {a b c : Int} {p q : ByteArray} {x y z : Int} (h : NE w W gn a b c p q x y z) (m : Nat) : NE w (W.drewN m) gn a b c p q x y z :=
  ⟨h.e.below (pw_below_drewN (Below.refl _ _) m), h.n, h.g⟩
theorem NE.set0 {w W : World} {gn : Nat} {a b c : Int} {p q : ByteArray} {x y z : Int} (h : NE w W gn a b c p q x y z) (u : Int) : NE w (W.setCell ⟨gn, 0, none⟩ (.int .i64 u)) gn a b c p q u y z := by
  have := h.g
  exact ⟨⟨blk_far h.e.v (p := ⟨gn, 0, none⟩) (by simp; omega) _, blk_far h.e.r (p := ⟨gn, 0, none⟩) (by simp; omega) _, h.e.b.setCell (by simp; omega) _⟩, blk_put h.n 0 _ rfl, h.g⟩
theorem NE.set1 {w W : World} {gn : Nat} {a b c : Int} {p q : ByteArray} {x y z : Int} (h : NE w W gn a b c p q x y z) (u : Int) : NE w (W.setCell ⟨gn, 1, none⟩ (.int .i64 u)) gn a b c p q x u z := by
  have := h.g
  exact ⟨⟨blk_far h.e.v (p := ⟨gn, 1, none⟩) (by simp; omega) _, blk_far h.e.r (p := ⟨gn, 1, none⟩) (by simp; omega) _, h.e.b.setCell (by simp; omega) _⟩, blk_put h.n 1 _ rfl, h.g⟩
theorem NE.set2 {w W : World} {gn : Nat} {a b c : Int} {p q : ByteArray} {x y z : Int} (h : NE w W gn a b c p q x y z) (u : Int) : NE w (W.setCell ⟨gn, 2, none⟩ (.int .i64 u)) gn a b c p q x y u := by
  have := h.g
  exact ⟨⟨blk_far h.e.v (p := ⟨gn, 2, none⟩) (by simp; omega) _, blk_far h.e.r (p := ⟨gn, 2, none⟩) (by simp; omega) _, h.e.b.setCell (by simp; omega) _⟩, blk_put h.n 2 _ rfl, h.g⟩
set_option maxHeartbeats 4000000 in
set_option maxRecDepth 100000 in
theorem bump_lo (a b c : Int) (p q : ByteArray) (hl : p.size ≤ 1000000 ∧ q.size ≤ 1000000) (w : World) (h : checkB a b c p q = true) (l : Int) (hlo : decide (l < 1) = true) : Calls Tryd.prog 17 #[.agg #[.int .i64 a, .int .i64 b, .int .i64 c, .string p, .string q], .int .i64 l] w (BTold w 0 0 0 1) := by
  have HL := Aside0.mk hl
  have HB := Aside0.mk (BE.new w a b c p q)
  clear hl
  go_enter Tryd.func17, Tryd.ntmps17
  go_upto_region 2 with (first
    | (go_at_call 13; (with_reducible refine (check_any a b c p q HL.out.1 HL.out.2 _).mono ?_); rintro e w1 ⟨rfl, hb⟩; have HE := Aside0.mk (HB.out.below hb); clear hb HB))
  obtain ⟨⟨k0, k1, k2, k3, k4⟩, f0, f1, f2, f3, f4⟩ := HE.out.rcells
  have HF := Aside0.mk (HE.out.fill (0) (0) (0) ⟨#[]⟩ ⟨#[]⟩)
  go_wp2
  (try simp only [Exit.inBlock, Exit.then])
  exact bodyPost_ret (res17 (r := w.heap.size + 1) (a := 0) (b := 0) (c := 0) (p := ⟨#[]⟩) (q := ⟨#[]⟩) (x := 1) HF.out.1 rfl rfl) rfl ⟨rfl, HF.out.2⟩
set_option maxHeartbeats 4000000 in
set_option maxRecDepth 100000 in
theorem bump_hi (a b c : Int) (p q : ByteArray) (hl : p.size ≤ 1000000 ∧ q.size ≤ 1000000) (w : World) (h : checkB a b c p q = true) (l : Int) (hlo : decide (l < 1) = false) (hhi : decide (3 < l) = true) : Calls Tryd.prog 17 #[.agg #[.int .i64 a, .int .i64 b, .int .i64 c, .string p, .string q], .int .i64 l] w (BTold w 0 0 0 1) := by
  have HL := Aside0.mk hl
  have HB := Aside0.mk (BE.new w a b c p q)
  clear hl
  go_enter Tryd.func17, Tryd.ntmps17
  go_upto_region 2 with (first
    | (go_at_call 13; (with_reducible refine (check_any a b c p q HL.out.1 HL.out.2 _).mono ?_); rintro e w1 ⟨rfl, hb⟩; have HE := Aside0.mk (HB.out.below hb); clear hb HB))
  obtain ⟨⟨k0, k1, k2, k3, k4⟩, f0, f1, f2, f3, f4⟩ := HE.out.rcells
  have HF := Aside0.mk (HE.out.fill (0) (0) (0) ⟨#[]⟩ ⟨#[]⟩)
  go_wp2
  (try simp only [Exit.inBlock, Exit.then])
  exact bodyPost_ret (res17 (r := w.heap.size + 1) (a := 0) (b := 0) (c := 0) (p := ⟨#[]⟩) (q := ⟨#[]⟩) (x := 1) HF.out.1 rfl rfl) rfl ⟨rfl, HF.out.2⟩
set_option maxHeartbeats 4000000 in
set_option maxRecDepth 100000 in
theorem bump_1f (a b c : Int) (p q : ByteArray) (hl : p.size ≤ 1000000 ∧ q.size ≤ 1000000) (w : World) (h : checkB a b c p q = true) (hn : numB a = true ∧ numB b = true ∧ numB c = true) (e1 : (p.toList == ([] : List UInt8)) = false) (e2 : p.toList.isEmpty = false) (e3 : (p.toList != ([] : List UInt8)) = true) : Calls Tryd.prog 17 #[.agg #[.int .i64 a, .int .i64 b, .int .i64 c, .string p, .string q], .int .i64 1] w (BTold w a b c 0) := by
  have HL := Aside0.mk hl
  have HB := Aside0.mk (BE.new w a b c p q)
  have na := hn.1
  clear hl hn
  go_enter Tryd.func17, Tryd.ntmps17
  go_upto_region 3 with (first
    | (go_at_call 13; (with_reducible refine (check_any a b c p q HL.out.1 HL.out.2 _).mono ?_); rintro e w1 ⟨rfl, hb⟩; have HE := Aside0.mk (HB.out.below hb); clear hb HB))
  obtain ⟨u0, u1, u2, u3, u4⟩ := HE.out.vcells
  go_upto_region 4 with (fail)
  clear u0 u1 u2 u3 u4
  have lt1 := heap_lt' HE.out.r
  refine name_world (fun W => NE w W w1.heap.size a b c p q a b c) (NE.new HE.out) ?_
  generalize hgn : w1.heap.size = gn at *
  clear hgn HE
  clear w1
  rintro W1 E1
  obtain ⟨v0, v1, v2, v3, v4⟩ := E1.e.vcells
  obtain ⟨⟨x0, x1, x2, x3, x4⟩, g0, g1, g2, g3, g4⟩ := E1.ncells
  replace E1 := Aside0.mk E1
  go_upto_region 5 with (fail)
  clear v0 v1 v2 v3 v4
  obtain ⟨⟨k0, k1, k2, k3, k4⟩, f0, f1, f2, f3, f4⟩ := (Aside0.mk E1.out.e).out.rcells
  have HF := Aside0.mk ((Aside0.mk E1.out.e).out.fill (a) (b) (c) ⟨#[]⟩ ⟨#[]⟩)
  go_wp2
  (try simp only [Exit.inBlock, Exit.then])
  exact bodyPost_ret (res17 (r := w.heap.size + 1) (a := a) (b := b) (c := c) (p := ⟨#[]⟩) (q := ⟨#[]⟩) (x := 0) HF.out.1 rfl rfl) rfl ⟨rfl, HF.out.2⟩
set_option maxHeartbeats 4000000 in
set_option maxRecDepth 100000 in
theorem bump_1c (a b c : Int) (p q : ByteArray) (hl : p.size ≤ 1000000 ∧ q.size ≤ 1000000) (w : World) (h : checkB a b c p q = true) (hn : numB a = true ∧ numB b = true ∧ numB c = true) (e1 : (p.toList == ([] : List UInt8)) = true) (e2 : p.toList.isEmpty = true) (e3 : (p.toList != ([] : List UInt8)) = false) (n1 : numB (c + 1) = true) : Calls Tryd.prog 17 #[.agg #[.int .i64 a, .int .i64 b, .int .i64 c, .string p, .string q], .int .i64 1] w (BTold w a b (c + 1) 0) := by
  have HL := Aside0.mk hl
  have HB := Aside0.mk (BE.new w a b c p q)
  have hwc : IntKind.i64.wrap (c + 1) = c + 1 := by have := num_bd hn.2.2; rw [IntKind.wrap_i64]; omega
  have na := hn.1
  clear hl hn
  go_enter Tryd.func17, Tryd.ntmps17
  go_upto_region 3 with (first
    | (go_at_call 13; (with_reducible refine (check_any a b c p q HL.out.1 HL.out.2 _).mono ?_); rintro e w1 ⟨rfl, hb⟩; have HE := Aside0.mk (HB.out.below hb); clear hb HB))
  obtain ⟨u0, u1, u2, u3, u4⟩ := HE.out.vcells
  go_upto_region 4 with (fail)
  clear u0 u1 u2 u3 u4
  have lt1 := heap_lt' HE.out.r
  refine name_world (fun W => NE w W w1.heap.size a b c p q a b c) (NE.new HE.out) ?_
  generalize hgn : w1.heap.size = gn at *
  clear hgn HE
  clear w1
  rintro W1 E1
  obtain ⟨v0, v1, v2, v3, v4⟩ := E1.e.vcells
  obtain ⟨⟨x0, x1, x2, x3, x4⟩, g0, g1, g2, g3, g4⟩ := E1.ncells
  replace E1 := Aside0.mk E1
  go_upto_region 5 with (fail)
  clear v0 v1 v2 v3 v4
  go_upto_region 17 with (first
    | (go_at_call 31; (with_reducible refine (num_any _ _).mono ?_); rintro e w2 ⟨rfl, ⟨nd, rfl⟩⟩))
  refine name_world (fun W => NE w W gn a b c p q (a) (b) (c + 1)) ?_ ?_
  · repeat (with_reducible first | exact E1.out | apply NE.drewN | apply NE.set0 | apply NE.set1 | apply NE.set2)
  rintro W2 E2
  clear x0 x1 x2 x3 x4 g0 g1 g2 g3 g4 E1
  obtain ⟨⟨x0, x1, x2, x3, x4⟩, g0, g1, g2, g3, g4⟩ := E2.ncells
  replace E2 := Aside0.mk E2
  go_upto_region 19 with (first
    | (go_at_call 31; (with_reducible refine (num_any _ _).mono ?_); rintro e w2 ⟨rfl, ⟨nd, rfl⟩⟩))
  have E3 := Aside0.mk (E2.out.drewN nd)
  obtain ⟨⟨k0, k1, k2, k3, k4⟩, f0, f1, f2, f3, f4⟩ := (Aside0.mk E3.out.e).out.rcells
  have HF := Aside0.mk ((Aside0.mk E3.out.e).out.fill (a) (b) (c + 1) ⟨#[]⟩ ⟨#[]⟩)
  go_wp2
  (try simp only [Exit.inBlock, Exit.then])
  exact bodyPost_ret (res17 (r := w.heap.size + 1) (a := a) (b := b) (c := c + 1) (p := ⟨#[]⟩) (q := ⟨#[]⟩) (x := 0) HF.out.1 rfl rfl) rfl ⟨rfl, HF.out.2⟩
set_option maxHeartbeats 4000000 in
set_option maxRecDepth 100000 in
theorem bump_1b (a b c : Int) (p q : ByteArray) (hl : p.size ≤ 1000000 ∧ q.size ≤ 1000000) (w : World) (h : checkB a b c p q = true) (hn : numB a = true ∧ numB b = true ∧ numB c = true) (e1 : (p.toList == ([] : List UInt8)) = true) (e2 : p.toList.isEmpty = true) (e3 : (p.toList != ([] : List UInt8)) = false) (n1 : numB (c + 1) = false) (n2 : numB (b + 1) = true) : Calls Tryd.prog 17 #[.agg #[.int .i64 a, .int .i64 b, .int .i64 c, .string p, .string q], .int .i64 1] w (BTold w a (b + 1) 0 0) := by
  have HL := Aside0.mk hl
  have HB := Aside0.mk (BE.new w a b c p q)
  have hwc : IntKind.i64.wrap (c + 1) = c + 1 := by have := num_bd hn.2.2; rw [IntKind.wrap_i64]; omega
  have hwb : IntKind.i64.wrap (b + 1) = b + 1 := by have := num_bd hn.2.1; rw [IntKind.wrap_i64]; omega
  have na := hn.1
  clear hl hn
  go_enter Tryd.func17, Tryd.ntmps17
  go_upto_region 3 with (first
    | (go_at_call 13; (with_reducible refine (check_any a b c p q HL.out.1 HL.out.2 _).mono ?_); rintro e w1 ⟨rfl, hb⟩; have HE := Aside0.mk (HB.out.below hb); clear hb HB))
  obtain ⟨u0, u1, u2, u3, u4⟩ := HE.out.vcells
  go_upto_region 4 with (fail)
  clear u0 u1 u2 u3 u4
  have lt1 := heap_lt' HE.out.r
  refine name_world (fun W => NE w W w1.heap.size a b c p q a b c) (NE.new HE.out) ?_
  generalize hgn : w1.heap.size = gn at *
  clear hgn HE
  clear w1
  rintro W1 E1
  obtain ⟨v0, v1, v2, v3, v4⟩ := E1.e.vcells
  obtain ⟨⟨x0, x1, x2, x3, x4⟩, g0, g1, g2, g3, g4⟩ := E1.ncells
  replace E1 := Aside0.mk E1
  go_upto_region 5 with (fail)
  clear v0 v1 v2 v3 v4
  go_upto_region 17 with (first
    | (go_at_call 31; (with_reducible refine (num_any _ _).mono ?_); rintro e w2 ⟨rfl, ⟨nd, rfl⟩⟩))
  refine name_world (fun W => NE w W gn a b c p q (a) (b + 1) (0)) ?_ ?_
  · repeat (with_reducible first | exact E1.out | apply NE.drewN | apply NE.set0 | apply NE.set1 | apply NE.set2)
  rintro W2 E2
  clear x0 x1 x2 x3 x4 g0 g1 g2 g3 g4 E1
  obtain ⟨⟨x0, x1, x2, x3, x4⟩, g0, g1, g2, g3, g4⟩ := E2.ncells
  replace E2 := Aside0.mk E2
  go_upto_region 19 with (first
    | (go_at_call 31; (with_reducible refine (num_any _ _).mono ?_); rintro e w2 ⟨rfl, ⟨nd, rfl⟩⟩))
  have E3 := Aside0.mk (E2.out.drewN nd)
  obtain ⟨⟨k0, k1, k2, k3, k4⟩, f0, f1, f2, f3, f4⟩ := (Aside0.mk E3.out.e).out.rcells
  have HF := Aside0.mk ((Aside0.mk E3.out.e).out.fill (a) (b + 1) (0) ⟨#[]⟩ ⟨#[]⟩)
  go_wp2
  (try simp only [Exit.inBlock, Exit.then])
  exact bodyPost_ret (res17 (r := w.heap.size + 1) (a := a) (b := b + 1) (c := 0) (p := ⟨#[]⟩) (q := ⟨#[]⟩) (x := 0) HF.out.1 rfl rfl) rfl ⟨rfl, HF.out.2⟩
set_option maxHeartbeats 4000000 in
set_option maxRecDepth 100000 in
theorem bump_1a (a b c : Int) (p q : ByteArray) (hl : p.size ≤ 1000000 ∧ q.size ≤ 1000000) (w : World) (h : checkB a b c p q = true) (hn : numB a = true ∧ numB b = true ∧ numB c = true) (e1 : (p.toList == ([] : List UInt8)) = true) (e2 : p.toList.isEmpty = true) (e3 : (p.toList != ([] : List UInt8)) = false) (n1 : numB (c + 1) = false) (n2 : numB (b + 1) = false) (n3 : numB (a + 1) = true) : Calls Tryd.prog 17 #[.agg #[.int .i64 a, .int .i64 b, .int .i64 c, .string p, .string q], .int .i64 1] w (BTold w (a + 1) 0 0 0) := by
  have HL := Aside0.mk hl
  have HB := Aside0.mk (BE.new w a b c p q)
  have hwc : IntKind.i64.wrap (c + 1) = c + 1 := by have := num_bd hn.2.2; rw [IntKind.wrap_i64]; omega
  have hwb : IntKind.i64.wrap (b + 1) = b + 1 := by have := num_bd hn.2.1; rw [IntKind.wrap_i64]; omega
  have hwa : IntKind.i64.wrap (a + 1) = a + 1 := by have := num_bd hn.1; rw [IntKind.wrap_i64]; omega
  have na := hn.1
  clear hl hn
  go_enter Tryd.func17, Tryd.ntmps17
  go_upto_region 3 with (first
    | (go_at_call 13; (with_reducible refine (check_any a b c p q HL.out.1 HL.out.2 _).mono ?_); rintro e w1 ⟨rfl, hb⟩; have HE := Aside0.mk (HB.out.below hb); clear hb HB))
  obtain ⟨u0, u1, u2, u3, u4⟩ := HE.out.vcells
  go_upto_region 4 with (fail)
  clear u0 u1 u2 u3 u4
  have lt1 := heap_lt' HE.out.r
  refine name_world (fun W => NE w W w1.heap.size a b c p q a b c) (NE.new HE.out) ?_
  generalize hgn : w1.heap.size = gn at *
  clear hgn HE
  clear w1
  rintro W1 E1
  obtain ⟨v0, v1, v2, v3, v4⟩ := E1.e.vcells
  obtain ⟨⟨x0, x1, x2, x3, x4⟩, g0, g1, g2, g3, g4⟩ := E1.ncells
  replace E1 := Aside0.mk E1
  go_upto_region 5 with (fail)
  clear v0 v1 v2 v3 v4
  go_upto_region 17 with (first
    | (go_at_call 31; (with_reducible refine (num_any _ _).mono ?_); rintro e w2 ⟨rfl, ⟨nd, rfl⟩⟩))
  refine name_world (fun W => NE w W gn a b c p q (a + 1) (0) (0)) ?_ ?_
  · repeat (with_reducible first | exact E1.out | apply NE.drewN | apply NE.set0 | apply NE.set1 | apply NE.set2)
  rintro W2 E2
  clear x0 x1 x2 x3 x4 g0 g1 g2 g3 g4 E1
  obtain ⟨⟨x0, x1, x2, x3, x4⟩, g0, g1, g2, g3, g4⟩ := E2.ncells
  replace E2 := Aside0.mk E2
  go_upto_region 19 with (first
    | (go_at_call 31; (with_reducible refine (num_any _ _).mono ?_); rintro e w2 ⟨rfl, ⟨nd, rfl⟩⟩))
  have E3 := Aside0.mk (E2.out.drewN nd)
  obtain ⟨⟨k0, k1, k2, k3, k4⟩, f0, f1, f2, f3, f4⟩ := (Aside0.mk E3.out.e).out.rcells
  have HF := Aside0.mk ((Aside0.mk E3.out.e).out.fill (a + 1) (0) (0) ⟨#[]⟩ ⟨#[]⟩)
  go_wp2
  (try simp only [Exit.inBlock, Exit.then])
  exact bodyPost_ret (res17 (r := w.heap.size + 1) (a := a + 1) (b := 0) (c := 0) (p := ⟨#[]⟩) (q := ⟨#[]⟩) (x := 0) HF.out.1 rfl rfl) rfl ⟨rfl, HF.out.2⟩
set_option maxHeartbeats 4000000 in
set_option maxRecDepth 100000 in
theorem bump_1o (a b c : Int) (p q : ByteArray) (hl : p.size ≤ 1000000 ∧ q.size ≤ 1000000) (w : World) (h : checkB a b c p q = true) (hn : numB a = true ∧ numB b = true ∧ numB c = true) (e1 : (p.toList == ([] : List UInt8)) = true) (e2 : p.toList.isEmpty = true) (e3 : (p.toList != ([] : List UInt8)) = false) (n1 : numB (c + 1) = false) (n2 : numB (b + 1) = false) (n3 : numB (a + 1) = false) : Calls Tryd.prog 17 #[.agg #[.int .i64 a, .int .i64 b, .int .i64 c, .string p, .string q], .int .i64 1] w (BTold w 0 0 0 15) := by
  have HL := Aside0.mk hl
  have HB := Aside0.mk (BE.new w a b c p q)
  have hwc : IntKind.i64.wrap (c + 1) = c + 1 := by have := num_bd hn.2.2; rw [IntKind.wrap_i64]; omega
  have hwb : IntKind.i64.wrap (b + 1) = b + 1 := by have := num_bd hn.2.1; rw [IntKind.wrap_i64]; omega
  have hwa : IntKind.i64.wrap (a + 1) = a + 1 := by have := num_bd hn.1; rw [IntKind.wrap_i64]; omega
  have na := hn.1
  clear hl hn
  go_enter Tryd.func17, Tryd.ntmps17
  go_upto_region 3 with (first
    | (go_at_call 13; (with_reducible refine (check_any a b c p q HL.out.1 HL.out.2 _).mono ?_); rintro e w1 ⟨rfl, hb⟩; have HE := Aside0.mk (HB.out.below hb); clear hb HB))
  obtain ⟨u0, u1, u2, u3, u4⟩ := HE.out.vcells
  go_upto_region 4 with (fail)
  clear u0 u1 u2 u3 u4
  have lt1 := heap_lt' HE.out.r
  refine name_world (fun W => NE w W w1.heap.size a b c p q a b c) (NE.new HE.out) ?_
  generalize hgn : w1.heap.size = gn at *
  clear hgn HE
  clear w1
  rintro W1 E1
  obtain ⟨v0, v1, v2, v3, v4⟩ := E1.e.vcells
  obtain ⟨⟨x0, x1, x2, x3, x4⟩, g0, g1, g2, g3, g4⟩ := E1.ncells
  replace E1 := Aside0.mk E1
  go_upto_region 5 with (fail)
  clear v0 v1 v2 v3 v4
  go_upto_region 17 with (first
    | (go_at_call 31; (with_reducible refine (num_any _ _).mono ?_); rintro e w2 ⟨rfl, ⟨nd, rfl⟩⟩))
  refine name_world (fun W => NE w W gn a b c p q (a + 1) (0) (0)) ?_ ?_
  · repeat (with_reducible first | exact E1.out | apply NE.drewN | apply NE.set0 | apply NE.set1 | apply NE.set2)
  rintro W2 E2
  clear x0 x1 x2 x3 x4 g0 g1 g2 g3 g4 E1
  obtain ⟨⟨x0, x1, x2, x3, x4⟩, g0, g1, g2, g3, g4⟩ := E2.ncells
  replace E2 := Aside0.mk E2
  go_upto_region 18 with (first
    | (go_at_call 31; (with_reducible refine (num_any _ _).mono ?_); rintro e w2 ⟨rfl, ⟨nd, rfl⟩⟩))
  have E3 := Aside0.mk (E2.out.drewN nd)
  obtain ⟨⟨k0, k1, k2, k3, k4⟩, f0, f1, f2, f3, f4⟩ := (Aside0.mk E3.out.e).out.rcells
  have HF := Aside0.mk ((Aside0.mk E3.out.e).out.fill (0) (0) (0) ⟨#[]⟩ ⟨#[]⟩)
  go_wp2
  (try simp only [Exit.inBlock, Exit.then])
  exact bodyPost_ret (res17 (r := w.heap.size + 1) (a := 0) (b := 0) (c := 0) (p := ⟨#[]⟩) (q := ⟨#[]⟩) (x := 15) HF.out.1 rfl rfl) rfl ⟨rfl, HF.out.2⟩
set_option maxHeartbeats 4000000 in
set_option maxRecDepth 100000 in
theorem bump_2f (a b c : Int) (p q : ByteArray) (hl : p.size ≤ 1000000 ∧ q.size ≤ 1000000) (w : World) (h : checkB a b c p q = true) (hn : numB a = true ∧ numB b = true ∧ numB c = true) (e1 : (p.toList == ([] : List UInt8)) = false) (e2 : p.toList.isEmpty = false) (e3 : (p.toList != ([] : List UInt8)) = true) (cz : (c == 0) = true) : Calls Tryd.prog 17 #[.agg #[.int .i64 a, .int .i64 b, .int .i64 c, .string p, .string q], .int .i64 2] w (BTold w a b c 0) := by
  have HL := Aside0.mk hl
  have HB := Aside0.mk (BE.new w a b c p q)
  have na := hn.1
  clear hl hn
  go_enter Tryd.func17, Tryd.ntmps17
  go_upto_region 3 with (first
    | (go_at_call 13; (with_reducible refine (check_any a b c p q HL.out.1 HL.out.2 _).mono ?_); rintro e w1 ⟨rfl, hb⟩; have HE := Aside0.mk (HB.out.below hb); clear hb HB))
  obtain ⟨u0, u1, u2, u3, u4⟩ := HE.out.vcells
  go_upto_region 4 with (fail)
  clear u0 u1 u2 u3 u4
  have lt1 := heap_lt' HE.out.r
  refine name_world (fun W => NE w W w1.heap.size a b c p q a b c) (NE.new HE.out) ?_
  generalize hgn : w1.heap.size = gn at *
  clear hgn HE
  clear w1
  rintro W1 E1
  obtain ⟨v0, v1, v2, v3, v4⟩ := E1.e.vcells
  obtain ⟨⟨x0, x1, x2, x3, x4⟩, g0, g1, g2, g3, g4⟩ := E1.ncells
  replace E1 := Aside0.mk E1
  go_upto_region 5 with (fail)
  clear v0 v1 v2 v3 v4
  obtain ⟨⟨k0, k1, k2, k3, k4⟩, f0, f1, f2, f3, f4⟩ := (Aside0.mk E1.out.e).out.rcells
  have HF := Aside0.mk ((Aside0.mk E1.out.e).out.fill (a) (b) (c) ⟨#[]⟩ ⟨#[]⟩)
  go_wp2
  (try simp only [Exit.inBlock, Exit.then])
  exact bodyPost_ret (res17 (r := w.heap.size + 1) (a := a) (b := b) (c := c) (p := ⟨#[]⟩) (q := ⟨#[]⟩) (x := 0) HF.out.1 rfl rfl) rfl ⟨rfl, HF.out.2⟩
set_option maxHeartbeats 4000000 in
set_option maxRecDepth 100000 in
theorem bump_2eb (a b c : Int) (p q : ByteArray) (hl : p.size ≤ 1000000 ∧ q.size ≤ 1000000) (w : World) (h : checkB a b c p q = true) (hn : numB a = true ∧ numB b = true ∧ numB c = true) (e1 : (p.toList == ([] : List UInt8)) = true) (e2 : p.toList.isEmpty = true) (e3 : (p.toList != ([] : List UInt8)) = false) (n2 : numB (b + 1) = true) : Calls Tryd.prog 17 #[.agg #[.int .i64 a, .int .i64 b, .int .i64 c, .string p, .string q], .int .i64 2] w (BTold w a (b + 1) 0 0) := by
  have HL := Aside0.mk hl
  have HB := Aside0.mk (BE.new w a b c p q)
  have hwb : IntKind.i64.wrap (b + 1) = b + 1 := by have := num_bd hn.2.1; rw [IntKind.wrap_i64]; omega
  have na := hn.1
  clear hl hn
  go_enter Tryd.func17, Tryd.ntmps17
  go_upto_region 3 with (first
    | (go_at_call 13; (with_reducible refine (check_any a b c p q HL.out.1 HL.out.2 _).mono ?_); rintro e w1 ⟨rfl, hb⟩; have HE := Aside0.mk (HB.out.below hb); clear hb HB))
  obtain ⟨u0, u1, u2, u3, u4⟩ := HE.out.vcells
  go_upto_region 4 with (fail)
  clear u0 u1 u2 u3 u4
  have lt1 := heap_lt' HE.out.r
  refine name_world (fun W => NE w W w1.heap.size a b c p q a b c) (NE.new HE.out) ?_
  generalize hgn : w1.heap.size = gn at *
  clear hgn HE
  clear w1
  rintro W1 E1
  obtain ⟨v0, v1, v2, v3, v4⟩ := E1.e.vcells
  obtain ⟨⟨x0, x1, x2, x3, x4⟩, g0, g1, g2, g3, g4⟩ := E1.ncells
  replace E1 := Aside0.mk E1
  go_upto_region 5 with (fail)
  clear v0 v1 v2 v3 v4
  go_upto_region 17 with (first
    | (go_at_call 31; (with_reducible refine (num_any _ _).mono ?_); rintro e w2 ⟨rfl, ⟨nd, rfl⟩⟩))
  refine name_world (fun W => NE w W gn a b c p q (a) (b + 1) (0)) ?_ ?_
  · repeat (with_reducible first | exact E1.out | apply NE.drewN | apply NE.set0 | apply NE.set1 | apply NE.set2)
  rintro W2 E2
  clear x0 x1 x2 x3 x4 g0 g1 g2 g3 g4 E1
  obtain ⟨⟨x0, x1, x2, x3, x4⟩, g0, g1, g2, g3, g4⟩ := E2.ncells
  replace E2 := Aside0.mk E2
  go_upto_region 19 with (first
    | (go_at_call 31; (with_reducible refine (num_any _ _).mono ?_); rintro e w2 ⟨rfl, ⟨nd, rfl⟩⟩))
  have E3 := Aside0.mk (E2.out.drewN nd)
  obtain ⟨⟨k0, k1, k2, k3, k4⟩, f0, f1, f2, f3, f4⟩ := (Aside0.mk E3.out.e).out.rcells
  have HF := Aside0.mk ((Aside0.mk E3.out.e).out.fill (a) (b + 1) (0) ⟨#[]⟩ ⟨#[]⟩)
  go_wp2
  (try simp only [Exit.inBlock, Exit.then])
  exact bodyPost_ret (res17 (r := w.heap.size + 1) (a := a) (b := b + 1) (c := 0) (p := ⟨#[]⟩) (q := ⟨#[]⟩) (x := 0) HF.out.1 rfl rfl) rfl ⟨rfl, HF.out.2⟩
set_option maxHeartbeats 4000000 in
set_option maxRecDepth 100000 in
theorem bump_2cb (a b c : Int) (p q : ByteArray) (hl : p.size ≤ 1000000 ∧ q.size ≤ 1000000) (w : World) (h : checkB a b c p q = true) (hn : numB a = true ∧ numB b = true ∧ numB c = true) (e1 : (p.toList == ([] : List UInt8)) = false) (e2 : p.toList.isEmpty = false) (e3 : (p.toList != ([] : List UInt8)) = true) (cz : (c == 0) = false) (n2 : numB (b + 1) = true) : Calls Tryd.prog 17 #[.agg #[.int .i64 a, .int .i64 b, .int .i64 c, .string p, .string q], .int .i64 2] w (BTold w a (b + 1) 0 0) := by
  have HL := Aside0.mk hl
  have HB := Aside0.mk (BE.new w a b c p q)
  have hwb : IntKind.i64.wrap (b + 1) = b + 1 := by have := num_bd hn.2.1; rw [IntKind.wrap_i64]; omega
  have na := hn.1
  clear hl hn
  go_enter Tryd.func17, Tryd.ntmps17
  go_upto_region 3 with (first
    | (go_at_call 13; (with_reducible refine (check_any a b c p q HL.out.1 HL.out.2 _).mono ?_); rintro e w1 ⟨rfl, hb⟩; have HE := Aside0.mk (HB.out.below hb); clear hb HB))
  obtain ⟨u0, u1, u2, u3, u4⟩ := HE.out.vcells
  go_upto_region 4 with (fail)
  clear u0 u1 u2 u3 u4
  have lt1 := heap_lt' HE.out.r
  refine name_world (fun W => NE w W w1.heap.size a b c p q a b c) (NE.new HE.out) ?_
  generalize hgn : w1.heap.size = gn at *
  clear hgn HE
  clear w1
  rintro W1 E1
  obtain ⟨v0, v1, v2, v3, v4⟩ := E1.e.vcells
  obtain ⟨⟨x0, x1, x2, x3, x4⟩, g0, g1, g2, g3, g4⟩ := E1.ncells
  replace E1 := Aside0.mk E1
  go_upto_region 5 with (fail)
  clear v0 v1 v2 v3 v4
  go_upto_region 17 with (first
    | (go_at_call 31; (with_reducible refine (num_any _ _).mono ?_); rintro e w2 ⟨rfl, ⟨nd, rfl⟩⟩))
  refine name_world (fun W => NE w W gn a b c p q (a) (b + 1) (0)) ?_ ?_
  · repeat (with_reducible first | exact E1.out | apply NE.drewN | apply NE.set0 | apply NE.set1 | apply NE.set2)
  rintro W2 E2
  clear x0 x1 x2 x3 x4 g0 g1 g2 g3 g4 E1
  obtain ⟨⟨x0, x1, x2, x3, x4⟩, g0, g1, g2, g3, g4⟩ := E2.ncells
  replace E2 := Aside0.mk E2
  go_upto_region 19 with (first
    | (go_at_call 31; (with_reducible refine (num_any _ _).mono ?_); rintro e w2 ⟨rfl, ⟨nd, rfl⟩⟩))
  have E3 := Aside0.mk (E2.out.drewN nd)
  obtain ⟨⟨k0, k1, k2, k3, k4⟩, f0, f1, f2, f3, f4⟩ := (Aside0.mk E3.out.e).out.rcells
  have HF := Aside0.mk ((Aside0.mk E3.out.e).out.fill (a) (b + 1) (0) ⟨#[]⟩ ⟨#[]⟩)
  go_wp2
  (try simp only [Exit.inBlock, Exit.then])
  exact bodyPost_ret (res17 (r := w.heap.size + 1) (a := a) (b := b + 1) (c := 0) (p := ⟨#[]⟩) (q := ⟨#[]⟩) (x := 0) HF.out.1 rfl rfl) rfl ⟨rfl, HF.out.2⟩
set_option maxHeartbeats 4000000 in
set_option maxRecDepth 100000 in
theorem bump_2ea (a b c : Int) (p q : ByteArray) (hl : p.size ≤ 1000000 ∧ q.size ≤ 1000000) (w : World) (h : checkB a b c p q = true) (hn : numB a = true ∧ numB b = true ∧ numB c = true) (e1 : (p.toList == ([] : List UInt8)) = true) (e2 : p.toList.isEmpty = true) (e3 : (p.toList != ([] : List UInt8)) = false) (n2 : numB (b + 1) = false) (n3 : numB (a + 1) = true) : Calls Tryd.prog 17 #[.agg #[.int .i64 a, .int .i64 b, .int .i64 c, .string p, .string q], .int .i64 2] w (BTold w (a + 1) 0 0 0) := by
  have HL := Aside0.mk hl
  have HB := Aside0.mk (BE.new w a b c p q)
  have hwb : IntKind.i64.wrap (b + 1) = b + 1 := by have := num_bd hn.2.1; rw [IntKind.wrap_i64]; omega
  have hwa : IntKind.i64.wrap (a + 1) = a + 1 := by have := num_bd hn.1; rw [IntKind.wrap_i64]; omega
  have na := hn.1
  clear hl hn
  go_enter Tryd.func17, Tryd.ntmps17
  go_upto_region 3 with (first
    | (go_at_call 13; (with_reducible refine (check_any a b c p q HL.out.1 HL.out.2 _).mono ?_); rintro e w1 ⟨rfl, hb⟩; have HE := Aside0.mk (HB.out.below hb); clear hb HB))
  obtain ⟨u0, u1, u2, u3, u4⟩ := HE.out.vcells
  go_upto_region 4 with (fail)
  clear u0 u1 u2 u3 u4
  have lt1 := heap_lt' HE.out.r
  refine name_world (fun W => NE w W w1.heap.size a b c p q a b c) (NE.new HE.out) ?_
  generalize hgn : w1.heap.size = gn at *
  clear hgn HE
  clear w1
  rintro W1 E1
  obtain ⟨v0, v1, v2, v3, v4⟩ := E1.e.vcells
  obtain ⟨⟨x0, x1, x2, x3, x4⟩, g0, g1, g2, g3, g4⟩ := E1.ncells
  replace E1 := Aside0.mk E1
  go_upto_region 5 with (fail)
  clear v0 v1 v2 v3 v4
  go_upto_region 17 with (first
    | (go_at_call 31; (with_reducible refine (num_any _ _).mono ?_); rintro e w2 ⟨rfl, ⟨nd, rfl⟩⟩))
  refine name_world (fun W => NE w W gn a b c p q (a + 1) (0) (0)) ?_ ?_
  · repeat (with_reducible first | exact E1.out | apply NE.drewN | apply NE.set0 | apply NE.set1 | apply NE.set2)
  rintro W2 E2
  clear x0 x1 x2 x3 x4 g0 g1 g2 g3 g4 E1
  obtain ⟨⟨x0, x1, x2, x3, x4⟩, g0, g1, g2, g3, g4⟩ := E2.ncells
  replace E2 := Aside0.mk E2
  go_upto_region 19 with (first
    | (go_at_call 31; (with_reducible refine (num_any _ _).mono ?_); rintro e w2 ⟨rfl, ⟨nd, rfl⟩⟩))
  have E3 := Aside0.mk (E2.out.drewN nd)
  obtain ⟨⟨k0, k1, k2, k3, k4⟩, f0, f1, f2, f3, f4⟩ := (Aside0.mk E3.out.e).out.rcells
  have HF := Aside0.mk ((Aside0.mk E3.out.e).out.fill (a + 1) (0) (0) ⟨#[]⟩ ⟨#[]⟩)
  go_wp2
  (try simp only [Exit.inBlock, Exit.then])
  exact bodyPost_ret (res17 (r := w.heap.size + 1) (a := a + 1) (b := 0) (c := 0) (p := ⟨#[]⟩) (q := ⟨#[]⟩) (x := 0) HF.out.1 rfl rfl) rfl ⟨rfl, HF.out.2⟩
set_option maxHeartbeats 4000000 in
set_option maxRecDepth 100000 in
theorem bump_2ca (a b c : Int) (p q : ByteArray) (hl : p.size ≤ 1000000 ∧ q.size ≤ 1000000) (w : World) (h : checkB a b c p q = true) (hn : numB a = true ∧ numB b = true ∧ numB c = true) (e1 : (p.toList == ([] : List UInt8)) = false) (e2 : p.toList.isEmpty = false) (e3 : (p.toList != ([] : List UInt8)) = true) (cz : (c == 0) = false) (n2 : numB (b + 1) = false) (n3 : numB (a + 1) = true) : Calls Tryd.prog 17 #[.agg #[.int .i64 a, .int .i64 b, .int .i64 c, .string p, .string q], .int .i64 2] w (BTold w (a + 1) 0 0 0) := by
  have HL := Aside0.mk hl
  have HB := Aside0.mk (BE.new w a b c p q)
  have hwb : IntKind.i64.wrap (b + 1) = b + 1 := by have := num_bd hn.2.1; rw [IntKind.wrap_i64]; omega
  have hwa : IntKind.i64.wrap (a + 1) = a + 1 := by have := num_bd hn.1; rw [IntKind.wrap_i64]; omega
  have na := hn.1
  clear hl hn
  go_enter Tryd.func17, Tryd.ntmps17
  go_upto_region 3 with (first
    | (go_at_call 13; (with_reducible refine (check_any a b c p q HL.out.1 HL.out.2 _).mono ?_); rintro e w1 ⟨rfl, hb⟩; have HE := Aside0.mk (HB.out.below hb); clear hb HB))
  obtain ⟨u0, u1, u2, u3, u4⟩ := HE.out.vcells
  go_upto_region 4 with (fail)
  clear u0 u1 u2 u3 u4
  have lt1 := heap_lt' HE.out.r
  refine name_world (fun W => NE w W w1.heap.size a b c p q a b c) (NE.new HE.out) ?_
  generalize hgn : w1.heap.size = gn at *
  clear hgn HE
  clear w1
  rintro W1 E1
  obtain ⟨v0, v1, v2, v3, v4⟩ := E1.e.vcells
  obtain ⟨⟨x0, x1, x2, x3, x4⟩, g0, g1, g2, g3, g4⟩ := E1.ncells
  replace E1 := Aside0.mk E1
  go_upto_region 5 with (fail)
  clear v0 v1 v2 v3 v4
  go_upto_region 17 with (first
    | (go_at_call 31; (with_reducible refine (num_any _ _).mono ?_); rintro e w2 ⟨rfl, ⟨nd, rfl⟩⟩))
  refine name_world (fun W => NE w W gn a b c p q (a + 1) (0) (0)) ?_ ?_
  · repeat (with_reducible first | exact E1.out | apply NE.drewN | apply NE.set0 | apply NE.set1 | apply NE.set2)
  rintro W2 E2
  clear x0 x1 x2 x3 x4 g0 g1 g2 g3 g4 E1
  obtain ⟨⟨x0, x1, x2, x3, x4⟩, g0, g1, g2, g3, g4⟩ := E2.ncells
  replace E2 := Aside0.mk E2
  go_upto_region 19 with (first
    | (go_at_call 31; (with_reducible refine (num_any _ _).mono ?_); rintro e w2 ⟨rfl, ⟨nd, rfl⟩⟩))
  have E3 := Aside0.mk (E2.out.drewN nd)
  obtain ⟨⟨k0, k1, k2, k3, k4⟩, f0, f1, f2, f3, f4⟩ := (Aside0.mk E3.out.e).out.rcells
  have HF := Aside0.mk ((Aside0.mk E3.out.e).out.fill (a + 1) (0) (0) ⟨#[]⟩ ⟨#[]⟩)
  go_wp2
  (try simp only [Exit.inBlock, Exit.then])
  exact bodyPost_ret (res17 (r := w.heap.size + 1) (a := a + 1) (b := 0) (c := 0) (p := ⟨#[]⟩) (q := ⟨#[]⟩) (x := 0) HF.out.1 rfl rfl) rfl ⟨rfl, HF.out.2⟩
set_option maxHeartbeats 4000000 in
set_option maxRecDepth 100000 in
theorem bump_2eo (a b c : Int) (p q : ByteArray) (hl : p.size ≤ 1000000 ∧ q.size ≤ 1000000) (w : World) (h : checkB a b c p q = true) (hn : numB a = true ∧ numB b = true ∧ numB c = true) (e1 : (p.toList == ([] : List UInt8)) = true) (e2 : p.toList.isEmpty = true) (e3 : (p.toList != ([] : List UInt8)) = false) (n2 : numB (b + 1) = false) (n3 : numB (a + 1) = false) : Calls Tryd.prog 17 #[.agg #[.int .i64 a, .int .i64 b, .int .i64 c, .string p, .string q], .int .i64 2] w (BTold w 0 0 0 15) := by
  have HL := Aside0.mk hl
  have HB := Aside0.mk (BE.new w a b c p q)
  have hwb : IntKind.i64.wrap (b + 1) = b + 1 := by have := num_bd hn.2.1; rw [IntKind.wrap_i64]; omega
  have hwa : IntKind.i64.wrap (a + 1) = a + 1 := by have := num_bd hn.1; rw [IntKind.wrap_i64]; omega
  have na := hn.1
  clear hl hn
  go_enter Tryd.func17, Tryd.ntmps17
  go_upto_region 3 with (first
    | (go_at_call 13; (with_reducible refine (check_any a b c p q HL.out.1 HL.out.2 _).mono ?_); rintro e w1 ⟨rfl, hb⟩; have HE := Aside0.mk (HB.out.below hb); clear hb HB))
  obtain ⟨u0, u1, u2, u3, u4⟩ := HE.out.vcells
  go_upto_region 4 with (fail)
  clear u0 u1 u2 u3 u4
  have lt1 := heap_lt' HE.out.r
  refine name_world (fun W => NE w W w1.heap.size a b c p q a b c) (NE.new HE.out) ?_
  generalize hgn : w1.heap.size = gn at *
  clear hgn HE
  clear w1
  rintro W1 E1
  obtain ⟨v0, v1, v2, v3, v4⟩ := E1.e.vcells
  obtain ⟨⟨x0, x1, x2, x3, x4⟩, g0, g1, g2, g3, g4⟩ := E1.ncells
  replace E1 := Aside0.mk E1
  go_upto_region 5 with (fail)
  clear v0 v1 v2 v3 v4
  go_upto_region 17 with (first
    | (go_at_call 31; (with_reducible refine (num_any _ _).mono ?_); rintro e w2 ⟨rfl, ⟨nd, rfl⟩⟩))
  refine name_world (fun W => NE w W gn a b c p q (a + 1) (0) (0)) ?_ ?_
  · repeat (with_reducible first | exact E1.out | apply NE.drewN | apply NE.set0 | apply NE.set1 | apply NE.set2)
  rintro W2 E2
  clear x0 x1 x2 x3 x4 g0 g1 g2 g3 g4 E1
  obtain ⟨⟨x0, x1, x2, x3, x4⟩, g0, g1, g2, g3, g4⟩ := E2.ncells
  replace E2 := Aside0.mk E2
  go_upto_region 18 with (first
    | (go_at_call 31; (with_reducible refine (num_any _ _).mono ?_); rintro e w2 ⟨rfl, ⟨nd, rfl⟩⟩))
  have E3 := Aside0.mk (E2.out.drewN nd)
  obtain ⟨⟨k0, k1, k2, k3, k4⟩, f0, f1, f2, f3, f4⟩ := (Aside0.mk E3.out.e).out.rcells
  have HF := Aside0.mk ((Aside0.mk E3.out.e).out.fill (0) (0) (0) ⟨#[]⟩ ⟨#[]⟩)
  go_wp2
  (try simp only [Exit.inBlock, Exit.then])
  exact bodyPost_ret (res17 (r := w.heap.size + 1) (a := 0) (b := 0) (c := 0) (p := ⟨#[]⟩) (q := ⟨#[]⟩) (x := 15) HF.out.1 rfl rfl) rfl ⟨rfl, HF.out.2⟩
set_option maxHeartbeats 4000000 in
set_option maxRecDepth 100000 in
theorem bump_2co (a b c : Int) (p q : ByteArray) (hl : p.size ≤ 1000000 ∧ q.size ≤ 1000000) (w : World) (h : checkB a b c p q = true) (hn : numB a = true ∧ numB b = true ∧ numB c = true) (e1 : (p.toList == ([] : List UInt8)) = false) (e2 : p.toList.isEmpty = false) (e3 : (p.toList != ([] : List UInt8)) = true) (cz : (c == 0) = false) (n2 : numB (b + 1) = false) (n3 : numB (a + 1) = false) : Calls Tryd.prog 17 #[.agg #[.int .i64 a, .int .i64 b, .int .i64 c, .string p, .string q], .int .i64 2] w (BTold w 0 0 0 15) := by
  have HL := Aside0.mk hl
  have HB := Aside0.mk (BE.new w a b c p q)
  have hwb : IntKind.i64.wrap (b + 1) = b + 1 := by have := num_bd hn.2.1; rw [IntKind.wrap_i64]; omega
  have hwa : IntKind.i64.wrap (a + 1) = a + 1 := by have := num_bd hn.1; rw [IntKind.wrap_i64]; omega
  have na := hn.1
  clear hl hn
  go_enter Tryd.func17, Tryd.ntmps17
  go_upto_region 3 with (first
    | (go_at_call 13; (with_reducible refine (check_any a b c p q HL.out.1 HL.out.2 _).mono ?_); rintro e w1 ⟨rfl, hb⟩; have HE := Aside0.mk (HB.out.below hb); clear hb HB))
  obtain ⟨u0, u1, u2, u3, u4⟩ := HE.out.vcells
  go_upto_region 4 with (fail)
  clear u0 u1 u2 u3 u4
  have lt1 := heap_lt' HE.out.r
  refine name_world (fun W => NE w W w1.heap.size a b c p q a b c) (NE.new HE.out) ?_
  generalize hgn : w1.heap.size = gn at *
  clear hgn HE
  clear w1
  rintro W1 E1
  obtain ⟨v0, v1, v2, v3, v4⟩ := E1.e.vcells
  obtain ⟨⟨x0, x1, x2, x3, x4⟩, g0, g1, g2, g3, g4⟩ := E1.ncells
  replace E1 := Aside0.mk E1
  go_upto_region 5 with (fail)
  clear v0 v1 v2 v3 v4
  go_upto_region 17 with (first
    | (go_at_call 31; (with_reducible refine (num_any _ _).mono ?_); rintro e w2 ⟨rfl, ⟨nd, rfl⟩⟩))
  refine name_world (fun W => NE w W gn a b c p q (a + 1) (0) (0)) ?_ ?_
  · repeat (with_reducible first | exact E1.out | apply NE.drewN | apply NE.set0 | apply NE.set1 | apply NE.set2)
  rintro W2 E2
  clear x0 x1 x2 x3 x4 g0 g1 g2 g3 g4 E1
  obtain ⟨⟨x0, x1, x2, x3, x4⟩, g0, g1, g2, g3, g4⟩ := E2.ncells
  replace E2 := Aside0.mk E2
  go_upto_region 18 with (first
    | (go_at_call 31; (with_reducible refine (num_any _ _).mono ?_); rintro e w2 ⟨rfl, ⟨nd, rfl⟩⟩))
  have E3 := Aside0.mk (E2.out.drewN nd)
  obtain ⟨⟨k0, k1, k2, k3, k4⟩, f0, f1, f2, f3, f4⟩ := (Aside0.mk E3.out.e).out.rcells
  have HF := Aside0.mk ((Aside0.mk E3.out.e).out.fill (0) (0) (0) ⟨#[]⟩ ⟨#[]⟩)
  go_wp2
  (try simp only [Exit.inBlock, Exit.then])
  exact bodyPost_ret (res17 (r := w.heap.size + 1) (a := 0) (b := 0) (c := 0) (p := ⟨#[]⟩) (q := ⟨#[]⟩) (x := 15) HF.out.1 rfl rfl) rfl ⟨rfl, HF.out.2⟩
set_option maxHeartbeats 4000000 in
set_option maxRecDepth 100000 in
theorem bump_3f (a b c : Int) (p q : ByteArray) (hl : p.size ≤ 1000000 ∧ q.size ≤ 1000000) (w : World) (h : checkB a b c p q = true) (hn : numB a = true ∧ numB b = true ∧ numB c = true) (e1 : (p.toList == ([] : List UInt8)) = false) (e2 : p.toList.isEmpty = false) (e3 : (p.toList != ([] : List UInt8)) = true) (cz : (c == 0) = true) (bz : (b == 0) = true) : Calls Tryd.prog 17 #[.agg #[.int .i64 a, .int .i64 b, .int .i64 c, .string p, .string q], .int .i64 3] w (BTold w a b c 0) := by
  have HL := Aside0.mk hl
  have HB := Aside0.mk (BE.new w a b c p q)
  have na := hn.1
  clear hl hn
  go_enter Tryd.func17, Tryd.ntmps17
  go_upto_region 3 with (first
    | (go_at_call 13; (with_reducible refine (check_any a b c p q HL.out.1 HL.out.2 _).mono ?_); rintro e w1 ⟨rfl, hb⟩; have HE := Aside0.mk (HB.out.below hb); clear hb HB))
  obtain ⟨u0, u1, u2, u3, u4⟩ := HE.out.vcells
  go_upto_region 4 with (fail)
  clear u0 u1 u2 u3 u4
  have lt1 := heap_lt' HE.out.r
  refine name_world (fun W => NE w W w1.heap.size a b c p q a b c) (NE.new HE.out) ?_
  generalize hgn : w1.heap.size = gn at *
  clear hgn HE
  clear w1
  rintro W1 E1
  obtain ⟨v0, v1, v2, v3, v4⟩ := E1.e.vcells
  obtain ⟨⟨x0, x1, x2, x3, x4⟩, g0, g1, g2, g3, g4⟩ := E1.ncells
  replace E1 := Aside0.mk E1
  go_upto_region 5 with (fail)
  clear v0 v1 v2 v3 v4
  obtain ⟨⟨k0, k1, k2, k3, k4⟩, f0, f1, f2, f3, f4⟩ := (Aside0.mk E1.out.e).out.rcells
  have HF := Aside0.mk ((Aside0.mk E1.out.e).out.fill (a) (b) (c) ⟨#[]⟩ ⟨#[]⟩)
  go_wp2
  (try simp only [Exit.inBlock, Exit.then])
  exact bodyPost_ret (res17 (r := w.heap.size + 1) (a := a) (b := b) (c := c) (p := ⟨#[]⟩) (q := ⟨#[]⟩) (x := 0) HF.out.1 rfl rfl) rfl ⟨rfl, HF.out.2⟩
set_option maxHeartbeats 4000000 in
set_option maxRecDepth 100000 in
theorem bump_3ea (a b c : Int) (p q : ByteArray) (hl : p.size ≤ 1000000 ∧ q.size ≤ 1000000) (w : World) (h : checkB a b c p q = true) (hn : numB a = true ∧ numB b = true ∧ numB c = true) (e1 : (p.toList == ([] : List UInt8)) = true) (e2 : p.toList.isEmpty = true) (e3 : (p.toList != ([] : List UInt8)) = false) (n3 : numB (a + 1) = true) : Calls Tryd.prog 17 #[.agg #[.int .i64 a, .int .i64 b, .int .i64 c, .string p, .string q], .int .i64 3] w (BTold w (a + 1) 0 0 0) := by
  have HL := Aside0.mk hl
  have HB := Aside0.mk (BE.new w a b c p q)
  have hwa : IntKind.i64.wrap (a + 1) = a + 1 := by have := num_bd hn.1; rw [IntKind.wrap_i64]; omega
  have na := hn.1
  clear hl hn
  go_enter Tryd.func17, Tryd.ntmps17
  go_upto_region 3 with (first
    | (go_at_call 13; (with_reducible refine (check_any a b c p q HL.out.1 HL.out.2 _).mono ?_); rintro e w1 ⟨rfl, hb⟩; have HE := Aside0.mk (HB.out.below hb); clear hb HB))
  obtain ⟨u0, u1, u2, u3, u4⟩ := HE.out.vcells
  go_upto_region 4 with (fail)
  clear u0 u1 u2 u3 u4
  have lt1 := heap_lt' HE.out.r
  refine name_world (fun W => NE w W w1.heap.size a b c p q a b c) (NE.new HE.out) ?_
  generalize hgn : w1.heap.size = gn at *
  clear hgn HE
  clear w1
  rintro W1 E1
  obtain ⟨v0, v1, v2, v3, v4⟩ := E1.e.vcells
  obtain ⟨⟨x0, x1, x2, x3, x4⟩, g0, g1, g2, g3, g4⟩ := E1.ncells
  replace E1 := Aside0.mk E1
  go_upto_region 5 with (fail)
  clear v0 v1 v2 v3 v4
  go_upto_region 17 with (first
    | (go_at_call 31; (with_reducible refine (num_any _ _).mono ?_); rintro e w2 ⟨rfl, ⟨nd, rfl⟩⟩))
  refine name_world (fun W => NE w W gn a b c p q (a + 1) (0) (0)) ?_ ?_
  · repeat (with_reducible first | exact E1.out | apply NE.drewN | apply NE.set0 | apply NE.set1 | apply NE.set2)
  rintro W2 E2
  clear x0 x1 x2 x3 x4 g0 g1 g2 g3 g4 E1
  obtain ⟨⟨x0, x1, x2, x3, x4⟩, g0, g1, g2, g3, g4⟩ := E2.ncells
  replace E2 := Aside0.mk E2
  go_upto_region 19 with (first
    | (go_at_call 31; (with_reducible refine (num_any _ _).mono ?_); rintro e w2 ⟨rfl, ⟨nd, rfl⟩⟩))
  have E3 := Aside0.mk (E2.out.drewN nd)
  obtain ⟨⟨k0, k1, k2, k3, k4⟩, f0, f1, f2, f3, f4⟩ := (Aside0.mk E3.out.e).out.rcells
  have HF := Aside0.mk ((Aside0.mk E3.out.e).out.fill (a + 1) (0) (0) ⟨#[]⟩ ⟨#[]⟩)
  go_wp2
  (try simp only [Exit.inBlock, Exit.then])
  exact bodyPost_ret (res17 (r := w.heap.size + 1) (a := a + 1) (b := 0) (c := 0) (p := ⟨#[]⟩) (q := ⟨#[]⟩) (x := 0) HF.out.1 rfl rfl) rfl ⟨rfl, HF.out.2⟩
set_option maxHeartbeats 4000000 in
set_option maxRecDepth 100000 in
theorem bump_3ca (a b c : Int) (p q : ByteArray) (hl : p.size ≤ 1000000 ∧ q.size ≤ 1000000) (w : World) (h : checkB a b c p q = true) (hn : numB a = true ∧ numB b = true ∧ numB c = true) (e1 : (p.toList == ([] : List UInt8)) = false) (e2 : p.toList.isEmpty = false) (e3 : (p.toList != ([] : List UInt8)) = true) (cz : (c == 0) = false) (n3 : numB (a + 1) = true) : Calls Tryd.prog 17 #[.agg #[.int .i64 a, .int .i64 b, .int .i64 c, .string p, .string q], .int .i64 3] w (BTold w (a + 1) 0 0 0) := by
  have HL := Aside0.mk hl
  have HB := Aside0.mk (BE.new w a b c p q)
  have hwa : IntKind.i64.wrap (a + 1) = a + 1 := by have := num_bd hn.1; rw [IntKind.wrap_i64]; omega
  have na := hn.1
  clear hl hn
  go_enter Tryd.func17, Tryd.ntmps17
  go_upto_region 3 with (first
    | (go_at_call 13; (with_reducible refine (check_any a b c p q HL.out.1 HL.out.2 _).mono ?_); rintro e w1 ⟨rfl, hb⟩; have HE := Aside0.mk (HB.out.below hb); clear hb HB))
  obtain ⟨u0, u1, u2, u3, u4⟩ := HE.out.vcells
  go_upto_region 4 with (fail)
  clear u0 u1 u2 u3 u4
  have lt1 := heap_lt' HE.out.r
  refine name_world (fun W => NE w W w1.heap.size a b c p q a b c) (NE.new HE.out) ?_
  generalize hgn : w1.heap.size = gn at *
  clear hgn HE
  clear w1
  rintro W1 E1
  obtain ⟨v0, v1, v2, v3, v4⟩ := E1.e.vcells
  obtain ⟨⟨x0, x1, x2, x3, x4⟩, g0, g1, g2, g3, g4⟩ := E1.ncells
  replace E1 := Aside0.mk E1
  go_upto_region 5 with (fail)
  clear v0 v1 v2 v3 v4
  go_upto_region 17 with (first
    | (go_at_call 31; (with_reducible refine (num_any _ _).mono ?_); rintro e w2 ⟨rfl, ⟨nd, rfl⟩⟩))
  refine name_world (fun W => NE w W gn a b c p q (a + 1) (0) (0)) ?_ ?_
  · repeat (with_reducible first | exact E1.out | apply NE.drewN | apply NE.set0 | apply NE.set1 | apply NE.set2)
  rintro W2 E2
  clear x0 x1 x2 x3 x4 g0 g1 g2 g3 g4 E1
  obtain ⟨⟨x0, x1, x2, x3, x4⟩, g0, g1, g2, g3, g4⟩ := E2.ncells
  replace E2 := Aside0.mk E2
  go_upto_region 19 with (first
    | (go_at_call 31; (with_reducible refine (num_any _ _).mono ?_); rintro e w2 ⟨rfl, ⟨nd, rfl⟩⟩))
  have E3 := Aside0.mk (E2.out.drewN nd)
  obtain ⟨⟨k0, k1, k2, k3, k4⟩, f0, f1, f2, f3, f4⟩ := (Aside0.mk E3.out.e).out.rcells
  have HF := Aside0.mk ((Aside0.mk E3.out.e).out.fill (a + 1) (0) (0) ⟨#[]⟩ ⟨#[]⟩)
  go_wp2
  (try simp only [Exit.inBlock, Exit.then])
  exact bodyPost_ret (res17 (r := w.heap.size + 1) (a := a + 1) (b := 0) (c := 0) (p := ⟨#[]⟩) (q := ⟨#[]⟩) (x := 0) HF.out.1 rfl rfl) rfl ⟨rfl, HF.out.2⟩
set_option maxHeartbeats 4000000 in
set_option maxRecDepth 100000 in
theorem bump_3ba (a b c : Int) (p q : ByteArray) (hl : p.size ≤ 1000000 ∧ q.size ≤ 1000000) (w : World) (h : checkB a b c p q = true) (hn : numB a = true ∧ numB b = true ∧ numB c = true) (e1 : (p.toList == ([] : List UInt8)) = false) (e2 : p.toList.isEmpty = false) (e3 : (p.toList != ([] : List UInt8)) = true) (cz : (c == 0) = true) (bz : (b == 0) = false) (n3 : numB (a + 1) = true) : Calls Tryd.prog 17 #[.agg #[.int .i64 a, .int .i64 b, .int .i64 c, .string p, .string q], .int .i64 3] w (BTold w (a + 1) 0 0 0) := by
  have HL := Aside0.mk hl
  have HB := Aside0.mk (BE.new w a b c p q)
  have hwa : IntKind.i64.wrap (a + 1) = a + 1 := by have := num_bd hn.1; rw [IntKind.wrap_i64]; omega
  have na := hn.1
  clear hl hn
  go_enter Tryd.func17, Tryd.ntmps17
  go_upto_region 3 with (first
    | (go_at_call 13; (with_reducible refine (check_any a b c p q HL.out.1 HL.out.2 _).mono ?_); rintro e w1 ⟨rfl, hb⟩; have HE := Aside0.mk (HB.out.below hb); clear hb HB))
  obtain ⟨u0, u1, u2, u3, u4⟩ := HE.out.vcells
  go_upto_region 4 with (fail)
  clear u0 u1 u2 u3 u4
  have lt1 := heap_lt' HE.out.r
  refine name_world (fun W => NE w W w1.heap.size a b c p q a b c) (NE.new HE.out) ?_
  generalize hgn : w1.heap.size = gn at *
  clear hgn HE
  clear w1
  rintro W1 E1
  obtain ⟨v0, v1, v2, v3, v4⟩ := E1.e.vcells
  obtain ⟨⟨x0, x1, x2, x3, x4⟩, g0, g1, g2, g3, g4⟩ := E1.ncells
  replace E1 := Aside0.mk E1
  go_upto_region 5 with (fail)
  clear v0 v1 v2 v3 v4
  go_upto_region 17 with (first
    | (go_at_call 31; (with_reducible refine (num_any _ _).mono ?_); rintro e w2 ⟨rfl, ⟨nd, rfl⟩⟩))
  refine name_world (fun W => NE w W gn a b c p q (a + 1) (0) (0)) ?_ ?_
  · repeat (with_reducible first | exact E1.out | apply NE.drewN | apply NE.set0 | apply NE.set1 | apply NE.set2)
  rintro W2 E2
  clear x0 x1 x2 x3 x4 g0 g1 g2 g3 g4 E1
  obtain ⟨⟨x0, x1, x2, x3, x4⟩, g0, g1, g2, g3, g4⟩ := E2.ncells
  replace E2 := Aside0.mk E2
  go_upto_region 19 with (first
    | (go_at_call 31; (with_reducible refine (num_any _ _).mono ?_); rintro e w2 ⟨rfl, ⟨nd, rfl⟩⟩))
  have E3 := Aside0.mk (E2.out.drewN nd)
  obtain ⟨⟨k0, k1, k2, k3, k4⟩, f0, f1, f2, f3, f4⟩ := (Aside0.mk E3.out.e).out.rcells
  have HF := Aside0.mk ((Aside0.mk E3.out.e).out.fill (a + 1) (0) (0) ⟨#[]⟩ ⟨#[]⟩)
  go_wp2
  (try simp only [Exit.inBlock, Exit.then])
  exact bodyPost_ret (res17 (r := w.heap.size + 1) (a := a + 1) (b := 0) (c := 0) (p := ⟨#[]⟩) (q := ⟨#[]⟩) (x := 0) HF.out.1 rfl rfl) rfl ⟨rfl, HF.out.2⟩
set_option maxHeartbeats 4000000 in
set_option maxRecDepth 100000 in
theorem bump_3eo (a b c : Int) (p q : ByteArray) (hl : p.size ≤ 1000000 ∧ q.size ≤ 1000000) (w : World) (h : checkB a b c p q = true) (hn : numB a = true ∧ numB b = true ∧ numB c = true) (e1 : (p.toList == ([] : List UInt8)) = true) (e2 : p.toList.isEmpty = true) (e3 : (p.toList != ([] : List UInt8)) = false) (n3 : numB (a + 1) = false) : Calls Tryd.prog 17 #[.agg #[.int .i64 a, .int .i64 b, .int .i64 c, .string p, .string q], .int .i64 3] w (BTold w 0 0 0 15) := by
  have HL := Aside0.mk hl
  have HB := Aside0.mk (BE.new w a b c p q)
  have hwa : IntKind.i64.wrap (a + 1) = a + 1 := by have := num_bd hn.1; rw [IntKind.wrap_i64]; omega
  have na := hn.1
  clear hl hn
  go_enter Tryd.func17, Tryd.ntmps17
  go_upto_region 3 with (first
    | (go_at_call 13; (with_reducible refine (check_any a b c p q HL.out.1 HL.out.2 _).mono ?_); rintro e w1 ⟨rfl, hb⟩; have HE := Aside0.mk (HB.out.below hb); clear hb HB))
  obtain ⟨u0, u1, u2, u3, u4⟩ := HE.out.vcells
  go_upto_region 4 with (fail)
  clear u0 u1 u2 u3 u4
  have lt1 := heap_lt' HE.out.r
  refine name_world (fun W => NE w W w1.heap.size a b c p q a b c) (NE.new HE.out) ?_
  generalize hgn : w1.heap.size = gn at *
  clear hgn HE
  clear w1
  rintro W1 E1
  obtain ⟨v0, v1, v2, v3, v4⟩ := E1.e.vcells
  obtain ⟨⟨x0, x1, x2, x3, x4⟩, g0, g1, g2, g3, g4⟩ := E1.ncells
  replace E1 := Aside0.mk E1
  go_upto_region 5 with (fail)
  clear v0 v1 v2 v3 v4
  go_upto_region 17 with (first
    | (go_at_call 31; (with_reducible refine (num_any _ _).mono ?_); rintro e w2 ⟨rfl, ⟨nd, rfl⟩⟩))
  refine name_world (fun W => NE w W gn a b c p q (a + 1) (0) (0)) ?_ ?_
  · repeat (with_reducible first | exact E1.out | apply NE.drewN | apply NE.set0 | apply NE.set1 | apply NE.set2)
  rintro W2 E2
  clear x0 x1 x2 x3 x4 g0 g1 g2 g3 g4 E1
  obtain ⟨⟨x0, x1, x2, x3, x4⟩, g0, g1, g2, g3, g4⟩ := E2.ncells
  replace E2 := Aside0.mk E2
  go_upto_region 18 with (first
    | (go_at_call 31; (with_reducible refine (num_any _ _).mono ?_); rintro e w2 ⟨rfl, ⟨nd, rfl⟩⟩))
  have E3 := Aside0.mk (E2.out.drewN nd)
  obtain ⟨⟨k0, k1, k2, k3, k4⟩, f0, f1, f2, f3, f4⟩ := (Aside0.mk E3.out.e).out.rcells
  have HF := Aside0.mk ((Aside0.mk E3.out.e).out.fill (0) (0) (0) ⟨#[]⟩ ⟨#[]⟩)
  go_wp2
  (try simp only [Exit.inBlock, Exit.then])
  exact bodyPost_ret (res17 (r := w.heap.size + 1) (a := 0) (b := 0) (c := 0) (p := ⟨#[]⟩) (q := ⟨#[]⟩) (x := 15) HF.out.1 rfl rfl) rfl ⟨rfl, HF.out.2⟩
set_option maxHeartbeats 4000000 in
set_option maxRecDepth 100000 in
theorem bump_3co (a b c : Int) (p q : ByteArray) (hl : p.size ≤ 1000000 ∧ q.size ≤ 1000000) (w : World) (h : checkB a b c p q = true) (hn : numB a = true ∧ numB b = true ∧ numB c = true) (e1 : (p.toList == ([] : List UInt8)) = false) (e2 : p.toList.isEmpty = false) (e3 : (p.toList != ([] : List UInt8)) = true) (cz : (c == 0) = false) (n3 : numB (a + 1) = false) : Calls Tryd.prog 17 #[.agg #[.int .i64 a, .int .i64 b, .int .i64 c, .string p, .string q], .int .i64 3] w (BTold w 0 0 0 15) := by
  have HL := Aside0.mk hl
  have HB := Aside0.mk (BE.new w a b c p q)
  have hwa : IntKind.i64.wrap (a + 1) = a + 1 := by have := num_bd hn.1; rw [IntKind.wrap_i64]; omega
  have na := hn.1
  clear hl hn
  go_enter Tryd.func17, Tryd.ntmps17
  go_upto_region 3 with (first
    | (go_at_call 13; (with_reducible refine (check_any a b c p q HL.out.1 HL.out.2 _).mono ?_); rintro e w1 ⟨rfl, hb⟩; have HE := Aside0.mk (HB.out.below hb); clear hb HB))
  obtain ⟨u0, u1, u2, u3, u4⟩ := HE.out.vcells
  go_upto_region 4 with (fail)
  clear u0 u1 u2 u3 u4
  have lt1 := heap_lt' HE.out.r
  refine name_world (fun W => NE w W w1.heap.size a b c p q a b c) (NE.new HE.out) ?_
  generalize hgn : w1.heap.size = gn at *
  clear hgn HE
  clear w1
  rintro W1 E1
  obtain ⟨v0, v1, v2, v3, v4⟩ := E1.e.vcells
  obtain ⟨⟨x0, x1, x2, x3, x4⟩, g0, g1, g2, g3, g4⟩ := E1.ncells
  replace E1 := Aside0.mk E1
  go_upto_region 5 with (fail)
  clear v0 v1 v2 v3 v4
  go_upto_region 17 with (first
    | (go_at_call 31; (with_reducible refine (num_any _ _).mono ?_); rintro e w2 ⟨rfl, ⟨nd, rfl⟩⟩))
  refine name_world (fun W => NE w W gn a b c p q (a + 1) (0) (0)) ?_ ?_
  · repeat (with_reducible first | exact E1.out | apply NE.drewN | apply NE.set0 | apply NE.set1 | apply NE.set2)
  rintro W2 E2
  clear x0 x1 x2 x3 x4 g0 g1 g2 g3 g4 E1
  obtain ⟨⟨x0, x1, x2, x3, x4⟩, g0, g1, g2, g3, g4⟩ := E2.ncells
  replace E2 := Aside0.mk E2
  go_upto_region 18 with (first
    | (go_at_call 31; (with_reducible refine (num_any _ _).mono ?_); rintro e w2 ⟨rfl, ⟨nd, rfl⟩⟩))
  have E3 := Aside0.mk (E2.out.drewN nd)
  obtain ⟨⟨k0, k1, k2, k3, k4⟩, f0, f1, f2, f3, f4⟩ := (Aside0.mk E3.out.e).out.rcells
  have HF := Aside0.mk ((Aside0.mk E3.out.e).out.fill (0) (0) (0) ⟨#[]⟩ ⟨#[]⟩)
  go_wp2
  (try simp only [Exit.inBlock, Exit.then])
  exact bodyPost_ret (res17 (r := w.heap.size + 1) (a := 0) (b := 0) (c := 0) (p := ⟨#[]⟩) (q := ⟨#[]⟩) (x := 15) HF.out.1 rfl rfl) rfl ⟨rfl, HF.out.2⟩
set_option maxHeartbeats 4000000 in
set_option maxRecDepth 100000 in
theorem bump_3bo (a b c : Int) (p q : ByteArray) (hl : p.size ≤ 1000000 ∧ q.size ≤ 1000000) (w : World) (h : checkB a b c p q = true) (hn : numB a = true ∧ numB b = true ∧ numB c = true) (e1 : (p.toList == ([] : List UInt8)) = false) (e2 : p.toList.isEmpty = false) (e3 : (p.toList != ([] : List UInt8)) = true) (cz : (c == 0) = true) (bz : (b == 0) = false) (n3 : numB (a + 1) = false) : Calls Tryd.prog 17 #[.agg #[.int .i64 a, .int .i64 b, .int .i64 c, .string p, .string q], .int .i64 3] w (BTold w 0 0 0 15) := by
  have HL := Aside0.mk hl
  have HB := Aside0.mk (BE.new w a b c p q)
  have hwa : IntKind.i64.wrap (a + 1) = a + 1 := by have := num_bd hn.1; rw [IntKind.wrap_i64]; omega
  have na := hn.1
  clear hl hn
  go_enter Tryd.func17, Tryd.ntmps17
  go_upto_region 3 with (first
    | (go_at_call 13; (with_reducible refine (check_any a b c p q HL.out.1 HL.out.2 _).mono ?_); rintro e w1 ⟨rfl, hb⟩; have HE := Aside0.mk (HB.out.below hb); clear hb HB))
  obtain ⟨u0, u1, u2, u3, u4⟩ := HE.out.vcells
  go_upto_region 4 with (fail)
  clear u0 u1 u2 u3 u4
  have lt1 := heap_lt' HE.out.r
  refine name_world (fun W => NE w W w1.heap.size a b c p q a b c) (NE.new HE.out) ?_
  generalize hgn : w1.heap.size = gn at *
  clear hgn HE
  clear w1
  rintro W1 E1
  obtain ⟨v0, v1, v2, v3, v4⟩ := E1.e.vcells
  obtain ⟨⟨x0, x1, x2, x3, x4⟩, g0, g1, g2, g3, g4⟩ := E1.ncells
  replace E1 := Aside0.mk E1
  go_upto_region 5 with (fail)
  clear v0 v1 v2 v3 v4
  go_upto_region 17 with (first
    | (go_at_call 31; (with_reducible refine (num_any _ _).mono ?_); rintro e w2 ⟨rfl, ⟨nd, rfl⟩⟩))
  refine name_world (fun W => NE w W gn a b c p q (a + 1) (0) (0)) ?_ ?_
  · repeat (with_reducible first | exact E1.out | apply NE.drewN | apply NE.set0 | apply NE.set1 | apply NE.set2)
  rintro W2 E2
  clear x0 x1 x2 x3 x4 g0 g1 g2 g3 g4 E1
  obtain ⟨⟨x0, x1, x2, x3, x4⟩, g0, g1, g2, g3, g4⟩ := E2.ncells
  replace E2 := Aside0.mk E2
  go_upto_region 18 with (first
    | (go_at_call 31; (with_reducible refine (num_any _ _).mono ?_); rintro e w2 ⟨rfl, ⟨nd, rfl⟩⟩))
  have E3 := Aside0.mk (E2.out.drewN nd)
  obtain ⟨⟨k0, k1, k2, k3, k4⟩, f0, f1, f2, f3, f4⟩ := (Aside0.mk E3.out.e).out.rcells
  have HF := Aside0.mk ((Aside0.mk E3.out.e).out.fill (0) (0) (0) ⟨#[]⟩ ⟨#[]⟩)
  go_wp2
  (try simp only [Exit.inBlock, Exit.then])
  exact bodyPost_ret (res17 (r := w.heap.size + 1) (a := 0) (b := 0) (c := 0) (p := ⟨#[]⟩) (q := ⟨#[]⟩) (x := 15) HF.out.1 rfl rfl) rfl ⟨rfl, HF.out.2⟩
end Go.Proofs.YthoiepkejhhcoaaDoor.P
