/- disk: New. -/
import Derived.Test.YtnoafmnjnmlhmaaZDTKNew
namespace Go.Proofs.Ytnoafmnjnmlhmaa.P
open Go.RowKit Go.Proofs.YtnoafmnjnmlhmaaW.PrintWords Go.Proofs.YtnoafmnjnmlhmaaW.PrintLast Go.Proofs.YtnoafmnjnmlhmaaW.PrintMore
attribute [local go_sem] max2_int min2_int max_two min_two max_three min_three max_four min_four
set_option linter.unusedVariables false
set_option linter.unusedSimpArgs false
theorem lit_C (w : World) (z : ByteArray) : Kd.C Kd.string (w.alloc (.cells #[.string z] 9)) (some ⟨w.heap.size, 0, none⟩) 1 [z] := by
  refine ⟨rfl, by omega, fun _ => ⟨_, rfl, fun j p hj => ?_⟩⟩
  obtain rfl : j = 0 := by have := (List.getElem?_eq_some_iff.1 hj).1; simpa using this
  obtain rfl : z = p := by simpa using hj
  refine ⟨[.string z], rfl, rfl, fun i u hu => ?_⟩
  obtain rfl : i = 0 := by have := (List.getElem?_eq_some_iff.1 hu).1; simpa using this
  obtain rfl : Value.string z = u := by simpa using hu
  exact cell_of_row (w.alloc (.cells #[.string z] 9)) w.heap.size 0 #[.string z] 9 (0, 0) (blk_new w _)
def disk_New.f (n : Int) : Option (List ByteArray × List S27 × Bool) := if n < 1 ∨ n > 512 then some ([], [], false) else some (List.replicate n.toNat (zerosB 32), [], true)
theorem filled_empty (w : World) : Calls Try.prog 29 #[.string ⟨#[]⟩] w fun e w' => e = .returned (.string (zerosB 32)) ∧ Below w.heap.size w w' := by
  refine disk_filled.calls (⟨#[]⟩ : ByteArray) (zerosB 32) w ?_
  unfold disk_filled.f
  rw [if_pos (by decide)]
  congr 1
set_option maxHeartbeats 8000000 in
set_option maxRecDepth 100000 in
theorem new_no (n : Int) (w : World) (hn : n < 1 ∨ n > 512) : Calls Try.prog 22 #[.int .i64 n] w fun e w' => e = .returned (.tuple #[.agg #[.slice none 0 0, .slice none 0 0], .bool false]) ∧ Below w.heap.size w w' := by
  have HB := Aside0.mk (Below.refl w.heap.size w)
  have hu25 := Try.underlying25
  rcases Int.lt_or_le n 1 with h1 | h1
  · have d0 : decide (n < 1) = true := decide_eq_true h1
    clear hn h1
    go_enter Try.func22, Try.ntmps22
    go_wp2_with (first
      | ((with_reducible refine gate_dst (N := 2) rfl ?_); refine box_event ?hg (N := 2) ?hd (cs := #[.slice none 0 0, .slice none 0 0]) (t := 25) ?hr ?_; (case hd => rfl); (case hg => rfl); (case hr => first | (go_simp; done) | (go_simp; rfl)); intro gb2 hg wgb2 hbox hb; have GEgb2 := Aside0.mk ((by rw [hg]; exact below_size HB.out) : w.heap.size ≤ gb2); replace HB := Aside0.mk (below_step HB.out hb); have BKgb2 := Aside0.mk hbox; clear hb hbox hg; have hczgb2_0 : _ = some ((.slice none 0 0 : Value)) := (blk_cell BKgb2.out 0).trans rfl; have hczgb2_1 : _ = some ((.slice none 0 0 : Value)) := (blk_cell BKgb2.out 1).trans rfl; have hfzgb2_0 := blk_frozen BKgb2.out 0; have hfzgb2_1 := blk_frozen BKgb2.out 1))
    refine bodyPost_ret (results_ct rfl _ _ gb2 25 #[.slice none 0 0, .slice none 0 0] (0, 0) _ rfl (blk_put (blk_put BKgb2.out 0 _ rfl) 1 _ rfl) Try.underlying25 rfl (by kernel_rfl)) rfl ?_
    exact ⟨rfl, below_set (below_set HB.out GEgb2.out) GEgb2.out⟩
  · have d0 : decide (n < 1) = false := decide_eq_false (by omega)
    have d1 : decide (n > 512) = true := decide_eq_true (by omega)
    have d2 : decide (512 < n) = true := decide_eq_true (by omega)
    clear hn h1
    go_enter Try.func22, Try.ntmps22
    go_wp2_with (first
      | ((with_reducible refine gate_dst (N := 2) rfl ?_); refine box_event ?hg (N := 2) ?hd (cs := #[.slice none 0 0, .slice none 0 0]) (t := 25) ?hr ?_; (case hd => rfl); (case hg => rfl); (case hr => first | (go_simp; done) | (go_simp; rfl)); intro gb2 hg wgb2 hbox hb; have GEgb2 := Aside0.mk ((by rw [hg]; exact below_size HB.out) : w.heap.size ≤ gb2); replace HB := Aside0.mk (below_step HB.out hb); have BKgb2 := Aside0.mk hbox; clear hb hbox hg; have hczgb2_0 : _ = some ((.slice none 0 0 : Value)) := (blk_cell BKgb2.out 0).trans rfl; have hczgb2_1 : _ = some ((.slice none 0 0 : Value)) := (blk_cell BKgb2.out 1).trans rfl; have hfzgb2_0 := blk_frozen BKgb2.out 0; have hfzgb2_1 := blk_frozen BKgb2.out 1))
    refine bodyPost_ret (results_ct rfl _ _ gb2 25 #[.slice none 0 0, .slice none 0 0] (0, 0) _ rfl (blk_put (blk_put BKgb2.out 0 _ rfl) 1 _ rfl) Try.underlying25 rfl (by kernel_rfl)) rfl ?_
    exact ⟨rfl, below_set (below_set HB.out GEgb2.out) GEgb2.out⟩
set_option maxHeartbeats 8000000 in
set_option maxRecDepth 100000 in
theorem new_yes (n : Nat) (w : World) (h1 : 1 ≤ n) (h2 : n ≤ 512) : Calls Try.prog 22 #[.int .i64 (n : Int)] w fun e w' => ∃ v0, e = .returned (.tuple #[.agg #[v0, .slice none 0 0], .bool true]) ∧ Kd.R Kd.string 9 w' w.heap.size (fun _ => True) v0 (List.replicate n (zerosB 32)) ∧ Below w.heap.size w w' := by
  have HB := Aside0.mk (Below.refl w.heap.size w)
  have HN := Aside0.mk (And.intro h1 h2)
  have hu25 := Try.underlying25
  have d0 : decide ((n : Int) < 1) = false := decide_eq_false (by omega)
  have d1 : decide ((n : Int) > 512) = false := decide_eq_false (by omega)
  have d2 : decide ((512 : Int) < (n : Int)) = false := decide_eq_false (by omega)
  clear h1 h2
  have HZ : ∀ w, Calls Try.prog 29 #[.string ⟨#[]⟩] w fun e w' => e = .returned (.string (zerosB 32)) ∧ Below w.heap.size w w' := filled_empty
  replace HZ := Aside0.mk HZ
  generalize zerosB 32 = z at *
  go_enter Try.func22, Try.ntmps22
  go_wp2_with (first
    | ((with_reducible refine gate_dst (N := 2) rfl ?_); refine box_event ?hg (N := 2) ?hd (cs := #[.slice none 0 0, .slice none 0 0]) (t := 25) ?hr ?_; (case hd => rfl); (case hg => rfl); (case hr => first | (go_simp; done) | (go_simp; rfl)); intro gb2 hg wgb2 hbox hb; have GEgb2 := Aside0.mk ((by rw [hg]; exact below_size HB.out) : w.heap.size ≤ gb2); replace HB := Aside0.mk (below_step HB.out hb); have BKgb2 := Aside0.mk hbox; clear hb hbox hg)
    | (go_at_call 29; refine (HZ.out _).mono ?_; rintro e w3 ⟨rfl, hb⟩; replace BKgb2 := Aside0.mk (blk_below BKgb2.out hb); replace HB := Aside0.mk (below_step HB.out hb); clear hb)
    | (go_at_call 35; refine (repeat_walk z _ 1 n _ (lit_C w3 z) (Nat.le_refl _) HN.out.1 HN.out.2).mono ?_; rintro e w4 ⟨v0, rfl, ho, hb⟩; obtain ⟨A5, c5, e5⟩ := Kd.R_slice ho; subst e5; rw [List.length_replicate] at ho ⊢; have HG := Aside0.mk (below_size HB.out); have HO := Aside0.mk ho; have hb' := below_step (below_alloc (Below.refl _ _) _) hb; clear hb; have hb := hb'; clear hb'; replace BKgb2 := Aside0.mk (blk_below BKgb2.out hb); replace HB := Aside0.mk (below_step HB.out hb); clear hb ho; have hczgb2_0 : _ = some ((.slice none 0 0 : Value)) := (blk_cell BKgb2.out 0).trans rfl; have hczgb2_1 : _ = some ((.slice none 0 0 : Value)) := (blk_cell BKgb2.out 1).trans rfl; have hfzgb2_0 := blk_frozen BKgb2.out 0; have hfzgb2_1 := blk_frozen BKgb2.out 1))
  refine bodyPost_ret (results_ct rfl _ _ gb2 25 #[.slice A5 n c5, .slice none 0 0] (0, 0) _ rfl (blk_put (blk_put BKgb2.out 0 _ rfl) 1 _ rfl) Try.underlying25 rfl (by kernel_rfl)) rfl ?_
  refine ⟨_, rfl, ?_, below_set (below_set HB.out GEgb2.out) GEgb2.out⟩
  have hs : w.heap.size ≤ (w3.alloc (.cells #[.string z] 9)).heap.size := by rw [World.size_alloc]; have := HG.out; omega
  exact Kd.R_set (Kd.R_set (Kd.R_lower HO.out hs) BKgb2.out (by decide) 0 _) (blk_put BKgb2.out 0 _ rfl) (by decide) 1 _
theorem disk_New.calls (a0 : Int) (r1 : List ByteArray) (r2 : List (S27)) (r3 : Bool) (w : World) (h : disk_New.f a0 = some (r1, r2, r3)) :
    Calls Try.prog 22 #[.int .i64 a0] w fun e w' => ∃ v0_ v1_ : Value, e = .returned (.tuple #[.agg #[v0_, v1_], .bool r3]) ∧ Kd.R Kd.string 9 w' w.heap.size (fun _ => True) v0_ r1 ∧ Kd.R k27 27 w' w.heap.size (fun _ => True) v1_ r2 ∧ Below w.heap.size w w' := by
  unfold disk_New.f at h
  by_cases c : a0 < 1 ∨ a0 > 512
  · rw [if_pos c] at h
    simp only [Option.some.injEq, Prod.mk.injEq] at h
    obtain ⟨rfl, rfl, rfl⟩ := h
    refine (new_no a0 w c).mono ?_
    rintro e w' ⟨rfl, hb⟩
    exact ⟨_, _, rfl, Kd.R_nil _ _ _ _ _, Kd.R_nil _ _ _ _ _, hb⟩
  · rw [if_neg c] at h
    simp only [Option.some.injEq, Prod.mk.injEq] at h
    obtain ⟨rfl, rfl, rfl⟩ := h
    obtain ⟨n, rfl⟩ : ∃ n : Nat, a0 = (n : Int) := ⟨a0.toNat, by omega⟩
    rw [Int.toNat_natCast]
    refine (new_yes n w (by omega) (by omega)).mono ?_
    rintro e w' ⟨v0, rfl, ho, hb⟩
    exact ⟨_, _, rfl, ho, Kd.R_nil _ _ _ _ _, hb⟩
end Go.Proofs.Ytnoafmnjnmlhmaa.P
