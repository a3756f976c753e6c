/- disk: Get, walked. -/
import Derived.Test.YtnoafmnjnmlhmaaZDTKBack
namespace Go.Proofs.Ytnoafmnjnmlhmaa.P
open Go.RowKit Go.Proofs.YtnoafmnjnmlhmaaW.PrintWords Go.Proofs.YtnoafmnjnmlhmaaW.PrintLast Go.Proofs.YtnoafmnjnmlhmaaW.PrintMore Go.Proofs.Ytnoafmnjnmlhmaa.Rg
attribute [local go_sem] Oper.semAt_some
set_option linter.unusedVariables false
set_option linter.unusedSimpArgs false
set_option maxHeartbeats 4000000 in
set_option maxRecDepth 100000 in
theorem backward_calls (A1 : Option Addr) (n c1 : Nat) (w : World) : Calls Try.prog 31 #[.slice A1 n c1] w fun e w' =>
    e = .returned (.func (.func 39) #[] #[.pointer (some ⟨w.heap.size, 0, none⟩)]) ∧ w' = w.alloc (.cells #[.slice A1 n c1] 23) := by
  go_enter Try.func31, Try.ntmps31
  have hmf : ∀ (fn : Fn) (first cap : Array Value) (w : World), (Instr.makeFunc fn first cap).run Try.prog w = .ok (.func fn first cap) w := fun _ _ _ _ => rfl
  go_wp2
  go_ret
  exact ⟨rfl, rfl⟩
/-- The last write of a place; z, if there is none. -/
def lastW (a : Int) : List S27 → ByteArray → ByteArray
  | [], z => z
  | x :: r, z => lastW a r (if x.f0 = a then x.f1 else z)
def getZ (s : List ByteArray) (c : List S27) (a : Int) : ByteArray × Int := if (mayB s c && (decide (0 ≤ a) && decide (a < (s.length : Int)))) = true then (lastW a c (rdOf ByteArray.empty s a), 0) else ((⟨#[]⟩ : ByteArray), 1)
theorem lastW_append (a : Int) : ∀ (l r : List S27) (z : ByteArray), lastW a (l ++ r) z = lastW a r (lastW a l z)
  | [], _, _ => rfl
  | x :: l, r, z => by rw [List.cons_append, lastW, lastW, lastW_append a l]
theorem rdW_get {c : List S27} {n : Nat} (h : n < c.length) : rd_T27 c (n : Int) = c[n] := by
  unfold rd_T27
  rw [Int.toNat_natCast, List.getD_eq_getElem?_getD, List.getElem?_eq_getElem h]; rfl
/-- What is found from behind is what was written last. -/
theorem back_last (a : Int) (c : List S27) (z : ByteArray) : ∀ (n : Nat), n ≤ c.length →
    (∀ pre x post, bk c n = pre ++ x :: post → (∀ p ∈ pre, p.2.f0 ≠ a) → x.2.f0 = a → lastW a (c.take n) z = x.2.f1) ∧ ((∀ p ∈ bk c n, p.2.f0 ≠ a) → lastW a (c.take n) z = z)
  | 0, _ => ⟨fun pre x post h => by rw [bk] at h; simp at h, fun _ => rfl⟩
  | n + 1, hn => by
    obtain ⟨ih1, ih2⟩ := back_last a c z n (by omega)
    have ht : c.take (n + 1) = c.take n ++ [rd_T27 c (n : Int)] := by rw [List.take_succ_eq_append_getElem (by omega), rdW_get (by omega)]
    rw [ht, lastW_append, lastW, lastW]
    refine ⟨fun pre x post h hp hx => ?_, fun h => ?_⟩
    · rw [bk] at h
      cases pre with
      | nil =>
        have h1 := (List.cons.inj h).1
        subst h1
        rw [if_pos hx]
      | cons p pre =>
        rw [List.cons_append] at h
        have h1 := (List.cons.inj h).1
        subst h1
        rw [if_neg (hp _ List.mem_cons_self)]
        exact ih1 pre x post (List.cons.inj h).2 (fun q hq => hp q (List.mem_cons_of_mem _ hq)) hx
    · rw [bk] at h
      rw [if_neg (h _ List.mem_cons_self)]
      exact ih2 (fun q hq => h q (List.mem_cons_of_mem _ hq))
theorem res_cc {tmps : Array Value} {W : World} {r1 r2 : Nat} {s : ByteArray} {i : Int} (h1 : tmps.getD 4 undef = .pointer (some ⟨r1, 0, none⟩)) (h2 : tmps.getD 5 undef = .pointer (some ⟨r2, 0, none⟩)) (g1 : W.cell? ⟨r1, 0, none⟩ = some (.string s)) (g2 : W.cell? ⟨r2, 0, none⟩ = some (.int .i64 i)) :
    (results Try.f13 tmps).run Try.prog W = .ok (.tuple #[.string s, .int .i64 i]) W := by
  have e : Try.f13.results = #[.cell 4 9, .cell 5 31] := rfl
  unfold results
  rw [e]
  simp only [List.mapM_toArray, Array.mapM_eq_mapM_toList, List.mapM_cons, List.mapM_nil, h1, h2]
  go_simp
def GetI (w : World) (A0 : Option Addr) (c0 : Nat) (s : List ByteArray) (A1 : Option Addr) (c1 : Nat) (c : List S27) (a : Int) (pre : List (Nat × S27)) (W : World) : Prop :=
  W.heap[w.heap.size]? = some (.cells #[.slice A0 s.length c0, .slice A1 c.length c1] 25 (0, 0)) ∧ W.heap[w.heap.size + 1]? = some (.cells #[.int .i64 a] 3 (0, 0)) ∧
  W.heap[w.heap.size + 2]? = some (.cells #[.string ⟨#[]⟩] 9 (0, 0)) ∧ W.heap[w.heap.size + 3]? = some (.cells #[.int .i64 0] 31 (0, 0)) ∧ Below w.heap.size w W ∧ ∀ p ∈ pre, p.2.f0 ≠ a
def GetX (w : World) (a : Int) (pre : List (Nat × S27)) (W : World) : Prop :=
  ∃ (p : List (Nat × S27)) (x : Nat × S27), pre = p ++ [x] ∧ (∀ q ∈ p, q.2.f0 ≠ a) ∧ x.2.f0 = a ∧
  W.heap[w.heap.size + 2]? = some (.cells #[.string x.2.f1] 9 (0, 0)) ∧ W.heap[w.heap.size + 3]? = some (.cells #[.int .i64 0] 31 (0, 0)) ∧ Below w.heap.size w W
theorem keeps_of_below {W W' : World} (hb : Below W.heap.size W W') : KeepsOthers W W' := ⟨hb.size, fun k o hk _ => (hb.block k (heap_lt hk)).trans hk⟩
theorem at4 (w : World) (o1 o2 o3 o4 : Obj) : ((((w.alloc o1).alloc o2).alloc o3).alloc o4).heap[w.heap.size]? = some o1 ∧ ((((w.alloc o1).alloc o2).alloc o3).alloc o4).heap[w.heap.size + 1]? = some o2 ∧
    ((((w.alloc o1).alloc o2).alloc o3).alloc o4).heap[w.heap.size + 2]? = some o3 ∧ ((((w.alloc o1).alloc o2).alloc o3).alloc o4).heap[w.heap.size + 3]? = some o4 := by
  refine ⟨blk_alloc (blk_alloc (blk_alloc (blk_new w _) _) _) _, blk_alloc (blk_alloc ?_ _) _, blk_alloc ?_ _, ?_⟩
  · have := blk_new (w.alloc o1) o2; rwa [World.size_alloc] at this
  · have := blk_new ((w.alloc o1).alloc o2) o3; rwa [World.size_alloc, World.size_alloc] at this
  · have := blk_new (((w.alloc o1).alloc o2).alloc o3) o4; rwa [World.size_alloc, World.size_alloc, World.size_alloc] at this
theorem below4 (w : World) (o1 o2 o3 o4 : Obj) : Below w.heap.size w ((((w.alloc o1).alloc o2).alloc o3).alloc o4) := ((((Below.refl _ w).alloc (Nat.le_refl _) _).alloc (by simp) _).alloc (by simp; omega) _).alloc (by simp; omega) _
set_option maxHeartbeats 8000000 in
set_option maxRecDepth 100000 in
theorem get_n1 (A0 : Option Addr) (c0 : Nat) (s : List ByteArray) (A1 : Option Addr) (c1 : Nat) (c : List S27) (a : Int) (w : World) (h0 : Kd.C Kd.string w A0 s.length s) (g0 : s.length ≤ c0) (h1 : Kd.C k27 w A1 c.length c) (g1 : c.length ≤ c1) (hm : mayB s c = false) :
    Calls Try.prog 13 #[.agg #[.slice A0 s.length c0, .slice A1 c.length c1], .int .i64 a] w fun e w' => e = .returned (.tuple #[.string ⟨#[]⟩, .int .i64 1]) ∧ Below w.heap.size w w' := by
  have HM := Aside0.mk hm
  clear hm
  have H0 := Aside0.mk h0
  have G0 := Aside0.mk g0
  have H1 := Aside0.mk h1
  have G1 := Aside0.mk g1
  clear h0 g0 h1 g1
  have hu25 := Try.underlying25
  have hu27 := Try.underlying27
  refine (callsIn_wide (n := 3)).1 ?_
  refine callsIn_of_wp_marks Try.func13 rfl trivial ?_ rfl
  simp only [Try.ntmps13, List.size_toArray, List.length_cons, List.length_nil, Nat.reduceAdd, Nat.reduceSub, Array.replicate_succ, Array.replicate_zero, List.push_toArray, List.append_toArray, List.nil_append, List.cons_append]
  gi_wp2_with (fail)
  obtain ⟨b0, b1, b2, b3⟩ := at4 w (.cells #[.slice A0 s.length c0, .slice A1 c.length c1] 25) (.cells #[.int .i64 a] 3) (.cells #[.string ⟨#[]⟩] 9) (.cells #[.int .i64 0] 31)
  have hb4 := below4 w (.cells #[.slice A0 s.length c0, .slice A1 c.length c1] 25) (.cells #[.int .i64 a] 3) (.cells #[.string ⟨#[]⟩] 9) (.cells #[.int .i64 0] 31)
  generalize ((((w.alloc (.cells #[.slice A0 s.length c0, .slice A1 c.length c1] 25)).alloc (.cells #[.int .i64 a] 3)).alloc (.cells #[.string ⟨#[]⟩] 9)).alloc (.cells #[.int .i64 0] 31)) = W4 at *
  refine ⟨trivial, ?_⟩
  refine (callsIn_wide.2 (may_any A0 c0 s A1 c1 c _ (Kd.C_below H0.out hb4) G0.out (Kd.C_below H1.out hb4) G1.out)).mono ?_
  rintro e w5 ⟨rfl, hb⟩
  rw [HM.out]
  have B0 := Aside0.mk (blk_below b0 hb)
  have B1 := Aside0.mk (blk_below b1 hb)
  have B2 := Aside0.mk (blk_below b2 hb)
  have B3 := Aside0.mk (blk_below b3 hb)
  have HB := Aside0.mk (below_step hb4 hb)
  clear b0 b1 b2 b3 hb4 hb
  have k0 : w5.cell? ⟨w.heap.size, 0, none⟩ = some (.slice A0 s.length c0) := (blk_cell B0.out 0).trans rfl
  have k1 : w5.cell? ⟨w.heap.size, 1, none⟩ = some (.slice A1 c.length c1) := (blk_cell B0.out 1).trans rfl
  have k2 : w5.cell? ⟨w.heap.size + 1, 0, none⟩ = some (.int .i64 a) := (blk_cell B1.out 0).trans rfl
  have k3 : w5.cell? ⟨w.heap.size + 1 + 1, 0, none⟩ = some (.string ⟨#[]⟩) := (blk_cell B2.out 0).trans rfl
  have k4 : w5.cell? ⟨w.heap.size + 1 + 1 + 1, 0, none⟩ = some (.int .i64 0) := (blk_cell B3.out 0).trans rfl
  have f3 := blk_frozen B2.out 0
  have f4 := blk_frozen B3.out 0
  gi_wp2_with (fail)
  refine ⟨trivial, ?_⟩
  gi_wp2_with (fail)
  exact ⟨_, res_cc (r1 := w.heap.size + 1 + 1) (r2 := w.heap.size + 1 + 1 + 1) (s := ⟨#[]⟩) (i := 1) rfl rfl (blk_cell (blk_far (blk_put B2.out 0 (.string ⟨#[]⟩) rfl) (p := ⟨w.heap.size + 1 + 1 + 1, 0, none⟩) (by simp) _) 0) (blk_cell (blk_put (blk_far B3.out (p := ⟨w.heap.size + 1 + 1, 0, none⟩) (by simp) _) 0 (.int .i64 1) rfl) 0), rfl, below_set (below_set HB.out (by omega)) (by omega)⟩
set_option maxHeartbeats 8000000 in
set_option maxRecDepth 100000 in
theorem get_n2 (A0 : Option Addr) (c0 : Nat) (s : List ByteArray) (A1 : Option Addr) (c1 : Nat) (c : List S27) (a : Int) (w : World) (h0 : Kd.C Kd.string w A0 s.length s) (g0 : s.length ≤ c0) (h1 : Kd.C k27 w A1 c.length c) (g1 : c.length ≤ c1) (hm : mayB s c = true) (hi : (decide (0 ≤ a) && decide (a < (s.length : Int))) = false) :
    Calls Try.prog 13 #[.agg #[.slice A0 s.length c0, .slice A1 c.length c1], .int .i64 a] w fun e w' => e = .returned (.tuple #[.string ⟨#[]⟩, .int .i64 1]) ∧ Below w.heap.size w w' := by
  have HM := Aside0.mk hm
  have HI := Aside0.mk hi
  clear hm hi
  have H0 := Aside0.mk h0
  have G0 := Aside0.mk g0
  have H1 := Aside0.mk h1
  have G1 := Aside0.mk g1
  clear h0 g0 h1 g1
  have hu25 := Try.underlying25
  have hu27 := Try.underlying27
  refine (callsIn_wide (n := 3)).1 ?_
  refine callsIn_of_wp_marks Try.func13 rfl trivial ?_ rfl
  simp only [Try.ntmps13, List.size_toArray, List.length_cons, List.length_nil, Nat.reduceAdd, Nat.reduceSub, Array.replicate_succ, Array.replicate_zero, List.push_toArray, List.append_toArray, List.nil_append, List.cons_append]
  gi_wp2_with (fail)
  obtain ⟨b0, b1, b2, b3⟩ := at4 w (.cells #[.slice A0 s.length c0, .slice A1 c.length c1] 25) (.cells #[.int .i64 a] 3) (.cells #[.string ⟨#[]⟩] 9) (.cells #[.int .i64 0] 31)
  have hb4 := below4 w (.cells #[.slice A0 s.length c0, .slice A1 c.length c1] 25) (.cells #[.int .i64 a] 3) (.cells #[.string ⟨#[]⟩] 9) (.cells #[.int .i64 0] 31)
  generalize ((((w.alloc (.cells #[.slice A0 s.length c0, .slice A1 c.length c1] 25)).alloc (.cells #[.int .i64 a] 3)).alloc (.cells #[.string ⟨#[]⟩] 9)).alloc (.cells #[.int .i64 0] 31)) = W4 at *
  refine ⟨trivial, ?_⟩
  refine (callsIn_wide.2 (may_any A0 c0 s A1 c1 c _ (Kd.C_below H0.out hb4) G0.out (Kd.C_below H1.out hb4) G1.out)).mono ?_
  rintro e w5 ⟨rfl, hb⟩
  rw [HM.out]
  have B0 := Aside0.mk (blk_below b0 hb)
  have B1 := Aside0.mk (blk_below b1 hb)
  have B2 := Aside0.mk (blk_below b2 hb)
  have B3 := Aside0.mk (blk_below b3 hb)
  have HB := Aside0.mk (below_step hb4 hb)
  clear b0 b1 b2 b3 hb4 hb
  have k0 : w5.cell? ⟨w.heap.size, 0, none⟩ = some (.slice A0 s.length c0) := (blk_cell B0.out 0).trans rfl
  have k1 : w5.cell? ⟨w.heap.size, 1, none⟩ = some (.slice A1 c.length c1) := (blk_cell B0.out 1).trans rfl
  have k2 : w5.cell? ⟨w.heap.size + 1, 0, none⟩ = some (.int .i64 a) := (blk_cell B1.out 0).trans rfl
  have k3 : w5.cell? ⟨w.heap.size + 1 + 1, 0, none⟩ = some (.string ⟨#[]⟩) := (blk_cell B2.out 0).trans rfl
  have k4 : w5.cell? ⟨w.heap.size + 1 + 1 + 1, 0, none⟩ = some (.int .i64 0) := (blk_cell B3.out 0).trans rfl
  have f3 := blk_frozen B2.out 0
  have f4 := blk_frozen B3.out 0
  gi_wp2_with (fail)
  refine ⟨trivial, ?_⟩
  refine (callsIn_wide.2 (is_any A0 c0 s A1 c1 c a _ (Kd.C_below H0.out HB.out) G0.out (Kd.C_below H1.out HB.out) G1.out)).mono ?_
  rintro e w6 ⟨rfl, hb⟩
  rw [HI.out]
  replace B0 := Aside0.mk (blk_below B0.out hb)
  replace B1 := Aside0.mk (blk_below B1.out hb)
  replace B2 := Aside0.mk (blk_below B2.out hb)
  replace B3 := Aside0.mk (blk_below B3.out hb)
  replace HB := Aside0.mk (below_step HB.out hb)
  clear hb k0 k1 k2 k3 k4 f3 f4
  have k0 : w6.cell? ⟨w.heap.size, 0, none⟩ = some (.slice A0 s.length c0) := (blk_cell B0.out 0).trans rfl
  have k1 : w6.cell? ⟨w.heap.size, 1, none⟩ = some (.slice A1 c.length c1) := (blk_cell B0.out 1).trans rfl
  have k2 : w6.cell? ⟨w.heap.size + 1, 0, none⟩ = some (.int .i64 a) := (blk_cell B1.out 0).trans rfl
  have k3 : w6.cell? ⟨w.heap.size + 1 + 1, 0, none⟩ = some (.string ⟨#[]⟩) := (blk_cell B2.out 0).trans rfl
  have k4 : w6.cell? ⟨w.heap.size + 1 + 1 + 1, 0, none⟩ = some (.int .i64 0) := (blk_cell B3.out 0).trans rfl
  have f3 := blk_frozen B2.out 0
  have f4 := blk_frozen B3.out 0
  gi_wp2_with (fail)
  exact ⟨_, res_cc (r1 := w.heap.size + 1 + 1) (r2 := w.heap.size + 1 + 1 + 1) (s := ⟨#[]⟩) (i := 1) rfl rfl (blk_cell (blk_far (blk_put B2.out 0 (.string ⟨#[]⟩) rfl) (p := ⟨w.heap.size + 1 + 1 + 1, 0, none⟩) (by simp) _) 0) (blk_cell (blk_put (blk_far B3.out (p := ⟨w.heap.size + 1 + 1, 0, none⟩) (by simp) _) 0 (.int .i64 1) rfl) 0), rfl, below_set (below_set HB.out (by omega)) (by omega)⟩
set_option maxHeartbeats 8000000 in
set_option maxRecDepth 100000 in
theorem get_y (A0 : Option Addr) (c0 : Nat) (s : List ByteArray) (A1 : Option Addr) (c1 : Nat) (c : List S27) (a : Int) (w : World) (h0 : Kd.C Kd.string w A0 s.length s) (g0 : s.length ≤ c0) (h1 : Kd.C k27 w A1 c.length c) (g1 : c.length ≤ c1) (hm : mayB s c = true) (hi : (decide (0 ≤ a) && decide (a < (s.length : Int))) = true) :
    Calls Try.prog 13 #[.agg #[.slice A0 s.length c0, .slice A1 c.length c1], .int .i64 a] w fun e w' => e = .returned (.tuple #[.string (lastW a c (rdOf ByteArray.empty s a)), .int .i64 0]) ∧ Below w.heap.size w w' := by
  have HM := Aside0.mk hm
  have HI := Aside0.mk hi
  clear hm hi
  have H0 := Aside0.mk h0
  have G0 := Aside0.mk g0
  have H1 := Aside0.mk h1
  have G1 := Aside0.mk g1
  clear h0 g0 h1 g1
  have hu25 := Try.underlying25
  have hu27 := Try.underlying27
  refine (callsIn_wide (n := 3)).1 ?_
  refine callsIn_of_wp_marks Try.func13 rfl trivial ?_ rfl
  simp only [Try.ntmps13, List.size_toArray, List.length_cons, List.length_nil, Nat.reduceAdd, Nat.reduceSub, Array.replicate_succ, Array.replicate_zero, List.push_toArray, List.append_toArray, List.nil_append, List.cons_append]
  gi_wp2_with (fail)
  obtain ⟨b0, b1, b2, b3⟩ := at4 w (.cells #[.slice A0 s.length c0, .slice A1 c.length c1] 25) (.cells #[.int .i64 a] 3) (.cells #[.string ⟨#[]⟩] 9) (.cells #[.int .i64 0] 31)
  have hb4 := below4 w (.cells #[.slice A0 s.length c0, .slice A1 c.length c1] 25) (.cells #[.int .i64 a] 3) (.cells #[.string ⟨#[]⟩] 9) (.cells #[.int .i64 0] 31)
  generalize ((((w.alloc (.cells #[.slice A0 s.length c0, .slice A1 c.length c1] 25)).alloc (.cells #[.int .i64 a] 3)).alloc (.cells #[.string ⟨#[]⟩] 9)).alloc (.cells #[.int .i64 0] 31)) = W4 at *
  refine ⟨trivial, ?_⟩
  refine (callsIn_wide.2 (may_any A0 c0 s A1 c1 c _ (Kd.C_below H0.out hb4) G0.out (Kd.C_below H1.out hb4) G1.out)).mono ?_
  rintro e w5 ⟨rfl, hb⟩
  rw [HM.out]
  have B0 := Aside0.mk (blk_below b0 hb)
  have B1 := Aside0.mk (blk_below b1 hb)
  have B2 := Aside0.mk (blk_below b2 hb)
  have B3 := Aside0.mk (blk_below b3 hb)
  have HB := Aside0.mk (below_step hb4 hb)
  clear b0 b1 b2 b3 hb4 hb
  have k0 : w5.cell? ⟨w.heap.size, 0, none⟩ = some (.slice A0 s.length c0) := (blk_cell B0.out 0).trans rfl
  have k1 : w5.cell? ⟨w.heap.size, 1, none⟩ = some (.slice A1 c.length c1) := (blk_cell B0.out 1).trans rfl
  have k2 : w5.cell? ⟨w.heap.size + 1, 0, none⟩ = some (.int .i64 a) := (blk_cell B1.out 0).trans rfl
  have k3 : w5.cell? ⟨w.heap.size + 1 + 1, 0, none⟩ = some (.string ⟨#[]⟩) := (blk_cell B2.out 0).trans rfl
  have k4 : w5.cell? ⟨w.heap.size + 1 + 1 + 1, 0, none⟩ = some (.int .i64 0) := (blk_cell B3.out 0).trans rfl
  have f3 := blk_frozen B2.out 0
  have f4 := blk_frozen B3.out 0
  gi_wp2_with (fail)
  refine ⟨trivial, ?_⟩
  refine (callsIn_wide.2 (is_any A0 c0 s A1 c1 c a _ (Kd.C_below H0.out HB.out) G0.out (Kd.C_below H1.out HB.out) G1.out)).mono ?_
  rintro e w6 ⟨rfl, hb⟩
  rw [HI.out]
  replace B0 := Aside0.mk (blk_below B0.out hb)
  replace B1 := Aside0.mk (blk_below B1.out hb)
  replace B2 := Aside0.mk (blk_below B2.out hb)
  replace B3 := Aside0.mk (blk_below B3.out hb)
  replace HB := Aside0.mk (below_step HB.out hb)
  clear hb k0 k1 k2 k3 k4 f3 f4
  have k0 : w6.cell? ⟨w.heap.size, 0, none⟩ = some (.slice A0 s.length c0) := (blk_cell B0.out 0).trans rfl
  have k1 : w6.cell? ⟨w.heap.size, 1, none⟩ = some (.slice A1 c.length c1) := (blk_cell B0.out 1).trans rfl
  have k2 : w6.cell? ⟨w.heap.size + 1, 0, none⟩ = some (.int .i64 a) := (blk_cell B1.out 0).trans rfl
  have k3 : w6.cell? ⟨w.heap.size + 1 + 1, 0, none⟩ = some (.string ⟨#[]⟩) := (blk_cell B2.out 0).trans rfl
  have k4 : w6.cell? ⟨w.heap.size + 1 + 1 + 1, 0, none⟩ = some (.int .i64 0) := (blk_cell B3.out 0).trans rfl
  have f3 := blk_frozen B2.out 0
  have f4 := blk_frozen B3.out 0
  gi_wp2_with (refine ⟨trivial, ?_⟩; gi_at_call 31; refine (callsIn_wide.2 (backward_calls A1 c.length c1 _)).mono ?_; rintro e w' ⟨rfl, rfl⟩)
  have HN4 := Aside0.mk (show w.heap.size + 4 ≤ w6.heap.size from blk_lt B3.out)
  have E0 : GetI w A0 c0 s A1 c1 c a [] (w6.alloc (.cells #[.slice A1 c.length c1] 23)) := ⟨blk_alloc B0.out _, blk_alloc B1.out _, blk_alloc B2.out _, blk_alloc B3.out _, below_alloc HB.out _, fun _ h => by cases h⟩
  have hB : (w6.alloc (.cells #[.slice A1 c.length c1] 23)).heap[w6.heap.size]? = some (.cells #[.slice A1 c.length c1] 23 (0, 0)) := blk_new w6 _
  have HR : Kd.C k27 (w6.alloc (.cells #[.slice A1 c.length c1] 23)) A1 c.length c := Kd.C_alloc (Kd.C_below H1.out HB.out) _
  have Z0 : (w6.alloc (.cells #[.slice A1 c.length c1] 23)).heap.size = w6.heap.size + 1 := by simp
  have HN4' := HN4.out
  generalize w6.alloc (.cells #[.slice A1 c.length c1] 23) = W0 at *
  clear k0 k1 k2 k3 k4 f3 f4
  refine wp_range2 (n := 1) (gf := 39) rfl (enters_of Try.func39 (by kernel_rfl) rfl) (back_iter 1 w6.heap.size A1 c1 c W0 hB HR) (by omega) (fun k hk => hk) (fun _ => rfl)
    (GetI w A0 c0 s A1 c1 c a) (GetX w a)
    ⟨fun h hb => ⟨held_grow h.1 hb, held_grow h.2.1 hb, held_grow h.2.2.1 hb, held_grow h.2.2.2.1 hb, below_step h.2.2.2.2.1 hb, h.2.2.2.2.2⟩, fun v h => ⟨held_cell h.1 (by omega) v, held_cell h.2.1 (by omega) v, held_cell h.2.2.1 (by omega) v, held_cell h.2.2.2.1 (by omega) v, h.2.2.2.2.1.setCell (by simp; omega) v, h.2.2.2.2.2⟩⟩
    ⟨fun ⟨p, x, h1, h2, h3, h4, h5, h6⟩ hb => ⟨p, x, h1, h2, h3, held_grow h4 hb, held_grow h5 hb, below_step h6 hb⟩, fun v ⟨p, x, h1, h2, h3, h4, h5, h6⟩ => ⟨p, x, h1, h2, h3, held_cell h4 (by omega) v, held_cell h5 (by omega) v, h6.setCell (by simp; omega) v⟩⟩
    (fun k o hk h _ => ⟨(World.putObj_heap_other (by omega)).trans h.1, (World.putObj_heap_other (by omega)).trans h.2.1, (World.putObj_heap_other (by omega)).trans h.2.2.1, (World.putObj_heap_other (by omega)).trans h.2.2.2.1, put_below o h.2.2.2.2.1 (by omega), h.2.2.2.2.2⟩)
    (fun k o hk ⟨p, x, h1, h2, h3, h4, h5, h6⟩ _ => ⟨p, x, h1, h2, h3, (World.putObj_heap_other (by omega)).trans h4, (World.putObj_heap_other (by omega)).trans h5, put_below o h6 (by omega)⟩)
    E0 (fun x a1 W => ∃ g, W0.heap.size + 2 ≤ g ∧ W.heap[g]? = some (.cells #[.int .i64 x.2.f0, .string x.2.f1] 27 (0, 0)) ∧ a1 = { tmps := #[.agg #[.slice A0 s.length c0, .slice A1 c.length c1], .int .i64 a, .pointer (some ⟨w.heap.size, 0, none⟩), .pointer (some ⟨w.heap.size + 1, 0, none⟩), .pointer (some ⟨w.heap.size + 1 + 1, 0, none⟩), .pointer (some ⟨w.heap.size + 1 + 1 + 1, 0, none⟩), undef, .pointer (some ⟨g, 0, none⟩), .agg #[.slice A0 s.length c0, .slice A1 c.length c1], .bool true, .bool false, .bool false, .agg #[.slice A0 s.length c0, .slice A1 c.length c1], .int .i64 a, .bool true, .bool false, .bool false, .pointer (some ⟨w.heap.size, 1, none⟩), .slice A1 c.length c1, .func (.func 39) #[] #[.pointer (some ⟨w6.heap.size, 0, none⟩)], .int .i64 (x.1 : Int), .agg #[.int .i64 x.2.f0, .string x.2.f1], undef, undef, undef, undef, undef, undef, undef, undef, undef, undef, undef], defers := [] })
    (fun k o hk ⟨g, h1, h2, h3⟩ => ⟨g, h1, (World.putObj_heap_other (by omega)).trans h2, h3⟩)
    (fun W hb => Eld.below hb) ?assign ?body ?done ?stop
  case assign =>
    intro l x W K hsz hK
    unfold encW
    gi_wp2
    exact hK _ _ (below_alloc (Below.refl _ _) _) ⟨W.heap.size, hsz, blk_new W _, rfl⟩
  case body =>
    rintro l pre x post a1 W hx hI ⟨g, hg, hbk, rfl⟩
    have k2 : W.cell? ⟨w.heap.size + 1, 0, none⟩ = some (.int .i64 a) := (blk_cell hI.2.1 0).trans rfl
    have k3 : W.cell? ⟨w.heap.size + 1 + 1, 0, none⟩ = some (.string ⟨#[]⟩) := (blk_cell hI.2.2.1 0).trans rfl
    have k4 : W.cell? ⟨w.heap.size + 1 + 1 + 1, 0, none⟩ = some (.int .i64 0) := (blk_cell hI.2.2.2.1 0).trans rfl
    have f3 := blk_frozen hI.2.2.1 0
    have f4 := blk_frozen hI.2.2.2.1 0
    have k5 : W.cell? ⟨g, 0, none⟩ = some (.int .i64 x.2.f0) := (blk_cell hbk 0).trans rfl
    have k6 : W.cell? ⟨g, 1, none⟩ = some (.string x.2.f1) := (blk_cell hbk 1).trans rfl
    replace hI := Aside0.mk hI
    replace hx := Aside0.mk hx
    clear E0 hB HR Z0 HN4' hbk hg
    by_cases e : x.2.f0 = a
    · have E := Aside0.mk e
      have e1 : (x.2.f0 == a) = true := beq_iff_eq.2 e
      clear e
      gi_wp2
      refine ⟨(KeepsOthers.setCell _ _ _).trans (KeepsOthers.setCell _ _ _), pre, x, rfl, hI.out.2.2.2.2.2, E.out, ?_, ?_, below_set (below_set hI.out.2.2.2.2.1 (by omega)) (by omega)⟩
      · exact blk_far (blk_put hI.out.2.2.1 0 (.string x.2.f1) rfl) (p := ⟨w.heap.size + 1 + 1 + 1, 0, none⟩) (by simp) _
      · exact blk_put (blk_far hI.out.2.2.2.1 (p := ⟨w.heap.size + 1 + 1, 0, none⟩) (by simp) _) 0 (.int .i64 0) rfl
    · have E := Aside0.mk e
      have e1 : (x.2.f0 == a) = false := beq_eq_false_iff_ne.2 e
      clear e
      gi_wp2
      exact ⟨keeps_of_below (Below.refl _ _), fun _ _ => rfl, hI.out.1, hI.out.2.1, hI.out.2.2.1, hI.out.2.2.2.1, hI.out.2.2.2.2.1, fun p hp => (List.mem_append.1 hp).elim (hI.out.2.2.2.2.2 p) (fun h => by obtain rfl := List.mem_singleton.1 h; exact E.out)⟩
  case done =>
    intro D W hI hD hDl
    obtain ⟨p0, p1⟩ : 0 ≤ a ∧ a < (s.length : Int) := by simpa using HI.out
    obtain ⟨ad, e1, hx0⟩ := Kd.at_string (Kd.C_below H0.out hI.2.2.2.2.1) a p0 p1
    have hL : lastW a c (rdOf ByteArray.empty s a) = rdOf ByteArray.empty s a := by
      have h := (back_last a c (rdOf ByteArray.empty s a) c.length (Nat.le_refl _)).2 hI.2.2.2.2.2
      rwa [List.take_length] at h
    obtain ⟨z, hz⟩ : ∃ z, rdOf ByteArray.empty s a = z := ⟨_, rfl⟩
    have HL := Aside0.mk (hL.trans hz)
    rw [hz] at hx0
    clear hz
    subst e1
    have k0 : W.cell? ⟨w.heap.size, 0, none⟩ = some (.slice (some ad) s.length c0) := (blk_cell hI.1 0).trans rfl
    have k2 : W.cell? ⟨w.heap.size + 1, 0, none⟩ = some (.int .i64 a) := (blk_cell hI.2.1 0).trans rfl
    have k3 : W.cell? ⟨w.heap.size + 1 + 1, 0, none⟩ = some (.string ⟨#[]⟩) := (blk_cell hI.2.2.1 0).trans rfl
    have k4 : W.cell? ⟨w.heap.size + 1 + 1 + 1, 0, none⟩ = some (.int .i64 0) := (blk_cell hI.2.2.2.1 0).trans rfl
    have f3 := blk_frozen hI.2.2.1 0
    have f4 := blk_frozen hI.2.2.2.1 0
    replace hI := Aside0.mk hI
    replace hD := Aside0.mk hD
    replace hDl := Aside0.mk hDl
    clear hL E0 hB HR
    gi_wp2
    refine ⟨by simp, .inl ⟨_, _, rfl, run_takeDeferred (held_cell (held_cell hD.out (by have := hDl.out; omega) _) (by have := hDl.out; omega) _), ?_⟩⟩
    have b2 := blk_far (blk_put hI.out.2.2.1 0 (.string z) rfl) (p := ⟨w.heap.size + 1 + 1 + 1, 0, none⟩) (by simp) (.int .i64 0)
    have b3 := blk_put (blk_far hI.out.2.2.2.1 (p := ⟨w.heap.size + 1 + 1, 0, none⟩) (by simp) (.string z)) 0 (.int .i64 0) rfl
    exact ⟨_, res_cc (r1 := w.heap.size + 1 + 1) (r2 := w.heap.size + 1 + 1 + 1) (s := z) (i := 0) rfl rfl (blk_cell ((World.putObj_heap_other (by have := hDl.out; omega)).trans b2) 0) (blk_cell ((World.putObj_heap_other (by have := hDl.out; omega)).trans b3) 0), by rw [HL.out], put_below _ (below_set (below_set hI.out.2.2.2.2.1 (by omega)) (by omega)) (by have := hDl.out; omega)⟩
  case stop =>
    rintro D pre x post W hx ⟨p, y, he, hp, hy, b2, b3, hb⟩ hD hDl
    obtain ⟨rfl, rfl⟩ : pre = p ∧ x = y := by
      have h := List.append_inj' he rfl
      exact ⟨h.1, (List.cons.inj h.2).1⟩
    have HL := Aside0.mk (show lastW a c (rdOf ByteArray.empty s a) = x.2.f1 from by
      have h := (back_last a c (rdOf ByteArray.empty s a) c.length (Nat.le_refl _)).1 pre x post hx hp hy
      rwa [List.take_length] at h)
    have B2 := Aside0.mk b2
    have B3 := Aside0.mk b3
    have HBX := Aside0.mk hb
    replace hD := Aside0.mk hD
    replace hDl := Aside0.mk hDl
    clear b2 b3 hb he hp hy hx E0 hB HR
    gi_wp2
    refine ⟨by simp, .inl ⟨_, _, rfl, run_takeDeferred hD.out, ?_⟩⟩
    exact ⟨_, res_cc (r1 := w.heap.size + 1 + 1) (r2 := w.heap.size + 1 + 1 + 1) (s := x.2.f1) (i := 0) rfl rfl (blk_cell ((World.putObj_heap_other (by have := hDl.out; have := HN4.out; omega)).trans B2.out) 0) (blk_cell ((World.putObj_heap_other (by have := hDl.out; have := HN4.out; omega)).trans B3.out) 0), by rw [HL.out], put_below _ HBX.out (by have := hDl.out; have := HN4.out; omega)⟩
theorem get_any (A0 : Option Addr) (c0 : Nat) (s : List ByteArray) (A1 : Option Addr) (c1 : Nat) (c : List S27) (a : Int) (w : World) (h0 : Kd.C Kd.string w A0 s.length s) (g0 : s.length ≤ c0) (h1 : Kd.C k27 w A1 c.length c) (g1 : c.length ≤ c1) :
    Calls Try.prog 13 #[.agg #[.slice A0 s.length c0, .slice A1 c.length c1], .int .i64 a] w fun e w' => e = .returned (.tuple #[.string (getZ s c a).1, .int .i64 (getZ s c a).2]) ∧ Below w.heap.size w w' := by
  unfold getZ
  by_cases hm : mayB s c = true
  · by_cases hi : (decide (0 ≤ a) && decide (a < (s.length : Int))) = true
    · rw [if_pos (by rw [hm, hi]; rfl)]
      exact get_y A0 c0 s A1 c1 c a w h0 g0 h1 g1 hm hi
    · rw [if_neg (by rw [Bool.and_eq_true]; exact fun h => hi h.2)]
      exact get_n2 A0 c0 s A1 c1 c a w h0 g0 h1 g1 hm (Bool.eq_false_iff.mpr hi)
  · rw [if_neg (by rw [Bool.and_eq_true]; exact fun h => hm h.1)]
    exact get_n1 A0 c0 s A1 c1 c a w h0 g0 h1 g1 (Bool.eq_false_iff.mpr hm)
end Go.Proofs.Ytnoafmnjnmlhmaa.P
