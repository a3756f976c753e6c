/- disk: Flush and Crash, walked. -/
import Derived.Test.YtnoafmnjnmlhmaaZDTKDone
namespace Go.Proofs.Ytnoafmnjnmlhmaa.P
open Go.RowKit Go.Proofs.YtnoafmnjnmlhmaaW.PrintWords Go.Proofs.YtnoafmnjnmlhmaaW.PrintLast Go.Proofs.YtnoafmnjnmlhmaaW.PrintMore
attribute [local go_sem] max2_int min2_int max_two min_two max_three min_three max_four min_four
set_option linter.unusedVariables false
set_option linter.unusedSimpArgs false
/-- Is write i kept? -/
def keptB (keep : List Bool) (i : Nat) : Bool := decide (i < keep.length) && keep.getD i false
set_option maxHeartbeats 4000000 in
set_option maxRecDepth 100000 in
theorem crash1_any (i B : Nat) (A2 : Option Addr) (c2 : Nat) (keep : List Bool) (W : World) (hB : W.heap[B]? = some (.cells #[.slice A2 keep.length c2] 28 (0, 0))) (hr : Kd.C Kd.bool W A2 keep.length keep) (hc : keep.length ≤ c2) :
    Calls Try.prog 34 #[.int .i64 (i : Int), .pointer (some ⟨B, 0, none⟩)] W fun e w' => e = .returned (.bool (keptB keep i)) ∧ Drawn0 W w' := by
  have BK := Aside0.mk hB
  have HR := Aside0.mk hr
  have HC := Aside0.mk hc
  clear hB hr hc
  unfold keptB
  by_cases hi : i < keep.length
  · obtain ⟨ad, e1, hx⟩ := Kd.at_bool HR.out (i : Int) (by omega) (by omega)
    have hg : rdOf false keep (i : Int) = keep.getD i false := by unfold rdOf; rw [Int.toNat_natCast]
    rw [hg, Int.toNat_natCast] at hx
    subst e1
    have d0 : decide ((i : Int) < (keep.length : Int)) = true := decide_eq_true (by omega)
    have d1 : decide (i < keep.length) = true := decide_eq_true hi
    have p0 : (0 : Int) ≤ (i : Int) := by omega
    have p1 : (i : Int) < (keep.length : Int) := by omega
    have hcz : W.cell? ⟨B, 0, none⟩ = some (.slice (some ad) keep.length c2) := (blk_cell BK.out 0).trans rfl
    rw [d1, Bool.true_and]
    clear hi hg
    generalize keep.getD i false = b at *
    go_enter Try.func34, Try.ntmps34
    go_wp2
    go_ret
    exact ⟨rfl, Drawn0.refl _⟩
  · have d0 : decide ((i : Int) < (keep.length : Int)) = false := decide_eq_false (by omega)
    have d1 : decide (i < keep.length) = false := decide_eq_false hi
    have hcz : W.cell? ⟨B, 0, none⟩ = some (.slice A2 keep.length c2) := (blk_cell BK.out 0).trans rfl
    rw [d1, Bool.false_and]
    clear hi
    go_enter Try.func34, Try.ntmps34
    go_wp2
    go_ret
    exact ⟨rfl, Drawn0.refl _⟩
def disk_Flush.f (l0_0 : List ByteArray) (l0_1 : List (S27)) : Option (List ByteArray × (List (S27)) × Int) := if mayB l0_0 l0_1 = true then some (wrt (fun _ => true) 0 l0_1 l0_0, ([] : List (S27)), 0) else some (l0_0, l0_1, 1)
set_option maxHeartbeats 8000000 in
set_option maxRecDepth 100000 in
theorem disk_Flush.calls (P0_0_ : Nat → Prop) (A0_0 : Option Addr) (c0_0 : Nat) (l0_0 : List ByteArray) (P0_1_ : Nat → Prop) (A0_1 : Option Addr) (c0_1 : Nat) (l0_1 : List (S27)) (r1 : List ByteArray) (r2 : List (S27)) (r3 : Int) (w : World) (hs0_0 : Kd.V Kd.string 9 w w.heap.size (fun k_ => P0_0_ k_) (.slice A0_0 l0_0.length c0_0) l0_0) (hs0_1 : Kd.V k27 27 w w.heap.size (fun k_ => P0_1_ k_) (.slice A0_1 l0_1.length c0_1) l0_1) (h : disk_Flush.f l0_0 l0_1 = some (r1, r2, r3)) :
    Calls Try.prog 18 #[.agg #[.slice A0_0 l0_0.length c0_0, .slice A0_1 l0_1.length c0_1]] w fun e w' => ∃ v0_ v1_ : Value, e = .returned (.tuple #[.agg #[v0_, v1_], .int .i64 r3]) ∧ Kd.V Kd.string 9 w' w.heap.size (fun k_ => ((P0_0_ k_ ∨ P0_1_ k_) ∨ w.heap.size ≤ k_)) v0_ r1 ∧ Kd.V k27 27 w' w.heap.size (fun k_ => ((P0_0_ k_ ∨ P0_1_ k_) ∨ w.heap.size ≤ k_)) v1_ r2 ∧ Below w.heap.size w w' := by
  have HS0 := Aside0.mk hs0_0
  have HS1 := Aside0.mk hs0_1
  have HB := Aside0.mk (Below.refl w.heap.size w)
  have hu25 := Try.underlying25
  unfold disk_Flush.f at h
  clear hs0_0 hs0_1
  by_cases hm : mayB l0_0 l0_1 = true
  · rw [if_pos hm] at h
    simp only [Option.some.injEq, Prod.mk.injEq] at h
    obtain ⟨rfl, rfl, rfl⟩ := h
    have HM := Aside0.mk hm
    clear hm
    go_enter Try.func18, Try.ntmps18
    go_wp2_with (first
      | ((with_reducible refine gate_dst (N := 1) rfl ?_); refine box_event ?hg (N := 1) ?hd (cs := #[.slice A0_0 l0_0.length c0_0, .slice A0_1 l0_1.length c0_1]) (t := 25) ?hr ?_; (case hd => rfl); (case hg => rfl); (case hr => first | (go_simp; done) | (go_simp; rfl)); intro gb1 hg wgb1 hbox hb; have GEgb1 := Aside0.mk ((by rw [hg]; exact below_size HB.out) : w.heap.size ≤ gb1); replace HB := Aside0.mk (below_step HB.out hb); have BKgb1 := Aside0.mk hbox; clear hb hbox hg)
      | ((with_reducible refine gate_dst (N := 2) rfl ?_); refine box_event ?hg (N := 2) ?hd (cs := #[.slice none 0 0, .slice none 0 0]) (t := 25) ?hr ?_; (case hd => rfl); (case hg => rfl); (case hr => first | (go_simp; done) | (go_simp; rfl)); intro gb4 hg wgb4 hbox hb; have GEgb4 := Aside0.mk ((by rw [hg]; exact below_size HB.out) : w.heap.size ≤ gb4); have NEgb1gb4 := Aside0.mk (by rw [hg]; exact Nat.ne_of_lt (blk_lt BKgb1.out) : gb1 ≠ gb4); replace BKgb1 := Aside0.mk (blk_below BKgb1.out hb); replace HB := Aside0.mk (below_step HB.out hb); have BKgb4 := Aside0.mk hbox; clear hb hbox hg; have hczgb1_0 : _ = some ((.slice A0_0 l0_0.length c0_0 : Value)) := (blk_cell BKgb1.out 0).trans rfl; have hczgb1_1 : _ = some ((.slice A0_1 l0_1.length c0_1 : Value)) := (blk_cell BKgb1.out 1).trans rfl; have hfzgb1_0 := blk_frozen BKgb1.out 0; have hfzgb1_1 := blk_frozen BKgb1.out 1)
      | (go_at_call 32; refine (done_f (fun _ => true) _ _ l0_0 _ _ l0_1 _ (Kd.C_below (Kd.F_now (Kd.V_F HS0.out)) HB.out) (Kd.V_reads' HS0.out).2.1 (Kd.C_below (Kd.F_now (Kd.V_F HS1.out)) HB.out) (Kd.V_reads' HS1.out).2.1 (fun i W _ _ => flush1_any (i : Int) W) HM.out).mono ?_; rintro e w5 ⟨v0, rfl, ho, hb⟩; obtain ⟨A5, c5, e5⟩ := Kd.R_slice ho; subst e5; have HO := Aside0.mk (Kd.R_V (base' := w.heap.size) (Kd.R_bound ho)); have HG := Aside0.mk (below_size HB.out); have HL4 := Aside0.mk (blk_lt BKgb4.out); replace BKgb4 := Aside0.mk (blk_below BKgb4.out hb); replace HB := Aside0.mk (below_step HB.out hb); have hczgb4_0 : _ = some ((.slice none 0 0 : Value)) := (blk_cell BKgb4.out 0).trans rfl; have hczgb4_1 : _ = some ((.slice none 0 0 : Value)) := (blk_cell BKgb4.out 1).trans rfl; have hfzgb4_0 := blk_frozen BKgb4.out 0; have hfzgb4_1 := blk_frozen BKgb4.out 1; clear ho hb))
    refine bodyPost_ret (results_ct rfl _ _ gb4 25 #[.slice A5 _ c5, .slice none 0 0] (0, 0) _ rfl (blk_put (blk_put BKgb4.out 0 _ rfl) 1 _ rfl) Try.underlying25 rfl (by kernel_rfl)) rfl ?_
    refine ⟨_, _, rfl, ?_, Kd.V_nil _ _ _ _ _, below_set (below_set HB.out GEgb4.out) GEgb4.out⟩
    exact Kd.V_mono (Kd.V_far (p := ⟨gb4, 1, none⟩) (Kd.V_far (p := ⟨gb4, 0, none⟩) (Kd.V_mono (ok' := fun k => wgb4.heap.size ≤ k) HO.out (fun k hk => hk.2.1)) (fun k hk => fun e_ => by have := HL4.out; have hk' : wgb4.heap.size ≤ k := hk; simp at e_; omega) _) (fun k hk => fun e_ => by have := HL4.out; have hk' : wgb4.heap.size ≤ k := hk; simp at e_; omega) _) (fun k hk => .inr (Nat.le_trans HG.out hk))
  · rw [if_neg hm] at h
    simp only [Option.some.injEq, Prod.mk.injEq] at h
    obtain ⟨rfl, rfl, rfl⟩ := h
    replace hm := Bool.eq_false_iff.mpr hm
    have HM := Aside0.mk hm
    clear hm
    go_enter Try.func18, Try.ntmps18
    go_wp2_with (first
      | ((with_reducible refine gate_dst (N := 1) rfl ?_); refine box_event ?hg (N := 1) ?hd (cs := #[.slice A0_0 l0_0.length c0_0, .slice A0_1 l0_1.length c0_1]) (t := 25) ?hr ?_; (case hd => rfl); (case hg => rfl); (case hr => first | (go_simp; done) | (go_simp; rfl)); intro gb1 hg wgb1 hbox hb; have GEgb1 := Aside0.mk ((by rw [hg]; exact below_size HB.out) : w.heap.size ≤ gb1); replace HB := Aside0.mk (below_step HB.out hb); have BKgb1 := Aside0.mk hbox; clear hb hbox hg)
      | ((with_reducible refine gate_dst (N := 2) rfl ?_); refine box_event ?hg (N := 2) ?hd (cs := #[.slice none 0 0, .slice none 0 0]) (t := 25) ?hr ?_; (case hd => rfl); (case hg => rfl); (case hr => first | (go_simp; done) | (go_simp; rfl)); intro gb4 hg wgb4 hbox hb; have GEgb4 := Aside0.mk ((by rw [hg]; exact below_size HB.out) : w.heap.size ≤ gb4); have NEgb1gb4 := Aside0.mk (by rw [hg]; exact Nat.ne_of_lt (blk_lt BKgb1.out) : gb1 ≠ gb4); replace BKgb1 := Aside0.mk (blk_below BKgb1.out hb); replace HB := Aside0.mk (below_step HB.out hb); have BKgb4 := Aside0.mk hbox; clear hb hbox hg; have hczgb1_0 : _ = some ((.slice A0_0 l0_0.length c0_0 : Value)) := (blk_cell BKgb1.out 0).trans rfl; have hczgb1_1 : _ = some ((.slice A0_1 l0_1.length c0_1 : Value)) := (blk_cell BKgb1.out 1).trans rfl; have hfzgb1_0 := blk_frozen BKgb1.out 0; have hfzgb1_1 := blk_frozen BKgb1.out 1)
      | (go_at_call 32; refine (done_ef _ _ l0_0 _ _ l0_1 _ (Kd.C_below (Kd.F_now (Kd.V_F HS0.out)) HB.out) (Kd.V_reads' HS0.out).2.1 (Kd.C_below (Kd.F_now (Kd.V_F HS1.out)) HB.out) (Kd.V_reads' HS1.out).2.1 HM.out).mono ?_; rintro e w5 ⟨rfl, hb⟩; replace BKgb4 := Aside0.mk (blk_below BKgb4.out hb); replace HB := Aside0.mk (below_step HB.out hb); have hczgb4_0 : _ = some ((.slice none 0 0 : Value)) := (blk_cell BKgb4.out 0).trans rfl; have hczgb4_1 : _ = some ((.slice none 0 0 : Value)) := (blk_cell BKgb4.out 1).trans rfl; have hfzgb4_0 := blk_frozen BKgb4.out 0; have hfzgb4_1 := blk_frozen BKgb4.out 1; clear hb))
    refine bodyPost_ret (results_ct rfl _ _ gb4 25 #[.slice A0_0 l0_0.length c0_0, .slice A0_1 l0_1.length c0_1] (0, 0) _ rfl (blk_put (blk_put BKgb4.out 0 _ rfl) 1 _ rfl) Try.underlying25 rfl (by kernel_rfl)) rfl ?_
    exact ⟨_, _, rfl, Kd.V_mono (Kd.V_below HS0.out (below_set (below_set HB.out GEgb4.out) GEgb4.out)) (fun k hk => .inl (.inl hk)), Kd.V_mono (Kd.V_below HS1.out (below_set (below_set HB.out GEgb4.out) GEgb4.out)) (fun k hk => .inl (.inr hk)), below_set (below_set HB.out GEgb4.out) GEgb4.out⟩
def disk_Crash.f (l0_0 : List ByteArray) (l0_1 : List (S27)) (l1 : List Bool) : Option (List ByteArray × (List (S27)) × Int) := if mayB l0_0 l0_1 = true then some (wrt (keptB l1) 0 l0_1 l0_0, ([] : List (S27)), 0) else some (l0_0, l0_1, 1)
set_option maxHeartbeats 8000000 in
set_option maxRecDepth 100000 in
theorem disk_Crash.calls (P0_0_ : Nat → Prop) (A0_0 : Option Addr) (c0_0 : Nat) (l0_0 : List ByteArray) (P0_1_ : Nat → Prop) (A0_1 : Option Addr) (c0_1 : Nat) (l0_1 : List (S27)) (A1 : Option Addr) (c1 : Nat) (l1 : List Bool) (r1 : List ByteArray) (r2 : List (S27)) (r3 : Int) (w : World) (hs0_0 : Kd.V Kd.string 9 w w.heap.size (fun k_ => P0_0_ k_) (.slice A0_0 l0_0.length c0_0) l0_0) (hs0_1 : Kd.V k27 27 w w.heap.size (fun k_ => P0_1_ k_) (.slice A0_1 l0_1.length c0_1) l0_1) (hr1 : Kd.C Kd.bool w A1 l1.length l1) (hc1 : l1.length ≤ c1) (h : disk_Crash.f l0_0 l0_1 l1 = some (r1, r2, r3)) :
    Calls Try.prog 20 #[.agg #[.slice A0_0 l0_0.length c0_0, .slice A0_1 l0_1.length c0_1], .slice A1 l1.length c1] w fun e w' => ∃ v0_ v1_ : Value, e = .returned (.tuple #[.agg #[v0_, v1_], .int .i64 r3]) ∧ Kd.V Kd.string 9 w' w.heap.size (fun k_ => ((P0_0_ k_ ∨ P0_1_ k_) ∨ w.heap.size ≤ k_)) v0_ r1 ∧ Kd.V k27 27 w' w.heap.size (fun k_ => ((P0_0_ k_ ∨ P0_1_ k_) ∨ w.heap.size ≤ k_)) v1_ r2 ∧ Below w.heap.size w w' := by
  have HS0 := Aside0.mk hs0_0
  have HS1 := Aside0.mk hs0_1
  have HR1 := Aside0.mk hr1
  have HC1 := Aside0.mk hc1
  have HB := Aside0.mk (Below.refl w.heap.size w)
  have hu25 := Try.underlying25
  unfold disk_Crash.f at h
  clear hs0_0 hs0_1 hr1 hc1
  by_cases hm : mayB l0_0 l0_1 = true
  · rw [if_pos hm] at h
    simp only [Option.some.injEq, Prod.mk.injEq] at h
    obtain ⟨rfl, rfl, rfl⟩ := h
    have HM := Aside0.mk hm
    clear hm
    go_enter Try.func20, Try.ntmps20
    go_wp2_with (first
      | ((with_reducible refine gate_dst (N := 2) rfl ?_); refine box_event ?hg (N := 2) ?hd (cs := #[.slice A0_0 l0_0.length c0_0, .slice A0_1 l0_1.length c0_1]) (t := 25) ?hr ?_; (case hd => rfl); (case hg => rfl); (case hr => first | (go_simp; done) | (go_simp; rfl)); intro gb1 hg wgb1 hbox hb; have GEgb1 := Aside0.mk ((by rw [hg]; exact below_size HB.out) : w.heap.size ≤ gb1); replace HB := Aside0.mk (below_step HB.out hb); have BKgb1 := Aside0.mk hbox; clear hb hbox hg)
      | ((with_reducible refine gate_dst (N := 3) rfl ?_); refine box_event ?hg (N := 3) ?hd (cs := #[.slice A1 l1.length c1]) (t := 28) ?hr ?_; (case hd => rfl); (case hg => rfl); (case hr => first | (go_simp; done) | (go_simp; rfl)); intro gb3 hg wgb3 hbox hb; have GEgb3 := Aside0.mk ((by rw [hg]; exact below_size HB.out) : w.heap.size ≤ gb3); have NEgb1gb3 := Aside0.mk (by rw [hg]; exact Nat.ne_of_lt (blk_lt BKgb1.out) : gb1 ≠ gb3); replace BKgb1 := Aside0.mk (blk_below BKgb1.out hb); replace HB := Aside0.mk (below_step HB.out hb); have BKgb3 := Aside0.mk hbox; clear hb hbox hg)
      | ((with_reducible refine gate_dst (N := 4) rfl ?_); refine box_event ?hg (N := 4) ?hd (cs := #[.slice none 0 0, .slice none 0 0]) (t := 25) ?hr ?_; (case hd => rfl); (case hg => rfl); (case hr => first | (go_simp; done) | (go_simp; rfl)); intro gb4 hg wgb4 hbox hb; have GEgb4 := Aside0.mk ((by rw [hg]; exact below_size HB.out) : w.heap.size ≤ gb4); have NEgb1gb4 := Aside0.mk (by rw [hg]; exact Nat.ne_of_lt (blk_lt BKgb1.out) : gb1 ≠ gb4); have NEgb3gb4 := Aside0.mk (by rw [hg]; exact Nat.ne_of_lt (blk_lt BKgb3.out) : gb3 ≠ gb4); replace BKgb1 := Aside0.mk (blk_below BKgb1.out hb); replace BKgb3 := Aside0.mk (blk_below BKgb3.out hb); replace HB := Aside0.mk (below_step HB.out hb); have BKgb4 := Aside0.mk hbox; clear hb hbox hg; have hczgb1_0 : _ = some ((.slice A0_0 l0_0.length c0_0 : Value)) := (blk_cell BKgb1.out 0).trans rfl; have hczgb1_1 : _ = some ((.slice A0_1 l0_1.length c0_1 : Value)) := (blk_cell BKgb1.out 1).trans rfl; have hfzgb1_0 := blk_frozen BKgb1.out 0; have hfzgb1_1 := blk_frozen BKgb1.out 1)
      | (go_at_call 32; refine (done_c (keptB l1) gb3 _ _ l0_0 _ _ l0_1 _ (Kd.C_below (Kd.F_now (Kd.V_F HS0.out)) HB.out) (Kd.V_reads' HS0.out).2.1 (Kd.C_below (Kd.F_now (Kd.V_F HS1.out)) HB.out) (Kd.V_reads' HS1.out).2.1 (fun i W _ hb_ => crash1_any i gb3 A1 c1 l1 W (blk_below BKgb3.out hb_) (Kd.C_below (Kd.C_below HR1.out HB.out) hb_) HC1.out) HM.out).mono ?_; rintro e w5 ⟨v0, rfl, ho, hb⟩; obtain ⟨A5, c5, e5⟩ := Kd.R_slice ho; subst e5; have HO := Aside0.mk (Kd.R_V (base' := w.heap.size) (Kd.R_bound ho)); have HG := Aside0.mk (below_size HB.out); have HL4 := Aside0.mk (blk_lt BKgb4.out); replace BKgb4 := Aside0.mk (blk_below BKgb4.out hb); replace HB := Aside0.mk (below_step HB.out hb); have hczgb4_0 : _ = some ((.slice none 0 0 : Value)) := (blk_cell BKgb4.out 0).trans rfl; have hczgb4_1 : _ = some ((.slice none 0 0 : Value)) := (blk_cell BKgb4.out 1).trans rfl; have hfzgb4_0 := blk_frozen BKgb4.out 0; have hfzgb4_1 := blk_frozen BKgb4.out 1; clear ho hb))
    refine bodyPost_ret (results_ct rfl _ _ gb4 25 #[.slice A5 _ c5, .slice none 0 0] (0, 0) _ rfl (blk_put (blk_put BKgb4.out 0 _ rfl) 1 _ rfl) Try.underlying25 rfl (by kernel_rfl)) rfl ?_
    refine ⟨_, _, rfl, ?_, Kd.V_nil _ _ _ _ _, below_set (below_set HB.out GEgb4.out) GEgb4.out⟩
    exact Kd.V_mono (Kd.V_far (p := ⟨gb4, 1, none⟩) (Kd.V_far (p := ⟨gb4, 0, none⟩) (Kd.V_mono (ok' := fun k => wgb4.heap.size ≤ k) HO.out (fun k hk => hk.2.1)) (fun k hk => fun e_ => by have := HL4.out; have hk' : wgb4.heap.size ≤ k := hk; simp at e_; omega) _) (fun k hk => fun e_ => by have := HL4.out; have hk' : wgb4.heap.size ≤ k := hk; simp at e_; omega) _) (fun k hk => .inr (Nat.le_trans HG.out hk))
  · rw [if_neg hm] at h
    simp only [Option.some.injEq, Prod.mk.injEq] at h
    obtain ⟨rfl, rfl, rfl⟩ := h
    replace hm := Bool.eq_false_iff.mpr hm
    have HM := Aside0.mk hm
    clear hm
    go_enter Try.func20, Try.ntmps20
    go_wp2_with (first
      | ((with_reducible refine gate_dst (N := 2) rfl ?_); refine box_event ?hg (N := 2) ?hd (cs := #[.slice A0_0 l0_0.length c0_0, .slice A0_1 l0_1.length c0_1]) (t := 25) ?hr ?_; (case hd => rfl); (case hg => rfl); (case hr => first | (go_simp; done) | (go_simp; rfl)); intro gb1 hg wgb1 hbox hb; have GEgb1 := Aside0.mk ((by rw [hg]; exact below_size HB.out) : w.heap.size ≤ gb1); replace HB := Aside0.mk (below_step HB.out hb); have BKgb1 := Aside0.mk hbox; clear hb hbox hg)
      | ((with_reducible refine gate_dst (N := 3) rfl ?_); refine box_event ?hg (N := 3) ?hd (cs := #[.slice A1 l1.length c1]) (t := 28) ?hr ?_; (case hd => rfl); (case hg => rfl); (case hr => first | (go_simp; done) | (go_simp; rfl)); intro gb3 hg wgb3 hbox hb; have GEgb3 := Aside0.mk ((by rw [hg]; exact below_size HB.out) : w.heap.size ≤ gb3); have NEgb1gb3 := Aside0.mk (by rw [hg]; exact Nat.ne_of_lt (blk_lt BKgb1.out) : gb1 ≠ gb3); replace BKgb1 := Aside0.mk (blk_below BKgb1.out hb); replace HB := Aside0.mk (below_step HB.out hb); have BKgb3 := Aside0.mk hbox; clear hb hbox hg)
      | ((with_reducible refine gate_dst (N := 4) rfl ?_); refine box_event ?hg (N := 4) ?hd (cs := #[.slice none 0 0, .slice none 0 0]) (t := 25) ?hr ?_; (case hd => rfl); (case hg => rfl); (case hr => first | (go_simp; done) | (go_simp; rfl)); intro gb4 hg wgb4 hbox hb; have GEgb4 := Aside0.mk ((by rw [hg]; exact below_size HB.out) : w.heap.size ≤ gb4); have NEgb1gb4 := Aside0.mk (by rw [hg]; exact Nat.ne_of_lt (blk_lt BKgb1.out) : gb1 ≠ gb4); have NEgb3gb4 := Aside0.mk (by rw [hg]; exact Nat.ne_of_lt (blk_lt BKgb3.out) : gb3 ≠ gb4); replace BKgb1 := Aside0.mk (blk_below BKgb1.out hb); replace BKgb3 := Aside0.mk (blk_below BKgb3.out hb); replace HB := Aside0.mk (below_step HB.out hb); have BKgb4 := Aside0.mk hbox; clear hb hbox hg; have hczgb1_0 : _ = some ((.slice A0_0 l0_0.length c0_0 : Value)) := (blk_cell BKgb1.out 0).trans rfl; have hczgb1_1 : _ = some ((.slice A0_1 l0_1.length c0_1 : Value)) := (blk_cell BKgb1.out 1).trans rfl; have hfzgb1_0 := blk_frozen BKgb1.out 0; have hfzgb1_1 := blk_frozen BKgb1.out 1)
      | (go_at_call 32; refine (done_ec gb3 _ _ l0_0 _ _ l0_1 _ (Kd.C_below (Kd.F_now (Kd.V_F HS0.out)) HB.out) (Kd.V_reads' HS0.out).2.1 (Kd.C_below (Kd.F_now (Kd.V_F HS1.out)) HB.out) (Kd.V_reads' HS1.out).2.1 HM.out).mono ?_; rintro e w5 ⟨rfl, hb⟩; replace BKgb4 := Aside0.mk (blk_below BKgb4.out hb); replace HB := Aside0.mk (below_step HB.out hb); have hczgb4_0 : _ = some ((.slice none 0 0 : Value)) := (blk_cell BKgb4.out 0).trans rfl; have hczgb4_1 : _ = some ((.slice none 0 0 : Value)) := (blk_cell BKgb4.out 1).trans rfl; have hfzgb4_0 := blk_frozen BKgb4.out 0; have hfzgb4_1 := blk_frozen BKgb4.out 1; clear hb))
    refine bodyPost_ret (results_ct rfl _ _ gb4 25 #[.slice A0_0 l0_0.length c0_0, .slice A0_1 l0_1.length c0_1] (0, 0) _ rfl (blk_put (blk_put BKgb4.out 0 _ rfl) 1 _ rfl) Try.underlying25 rfl (by kernel_rfl)) rfl ?_
    exact ⟨_, _, rfl, Kd.V_mono (Kd.V_below HS0.out (below_set (below_set HB.out GEgb4.out) GEgb4.out)) (fun k hk => .inl (.inl hk)), Kd.V_mono (Kd.V_below HS1.out (below_set (below_set HB.out GEgb4.out) GEgb4.out)) (fun k hk => .inl (.inr hk)), below_set (below_set HB.out GEgb4.out) GEgb4.out⟩
end Go.Proofs.Ytnoafmnjnmlhmaa.P
