/- ver: words, walked. -/
import Derived.Test.YthoiepkejhhcoaaDoorZVQGSeq
import Derived.Shelf.AbstractIn
namespace Go.Proofs.YthoiepkejhhcoaaDoor.P
open Go.RowKit Go.Proofs.YthoiepkejhhcoaaDoorW.PrintWords Go.Proofs.YthoiepkejhhcoaaDoorW.PrintLast Go.Proofs.YthoiepkejhhcoaaDoorW.PrintMore Go.Proofs.YthoiepkejhhcoaaDoor.Rg
attribute [local go_sem] Oper.semAt_some
set_option linter.unusedVariables false
set_option linter.unusedSimpArgs false
set_option maxHeartbeats 4000000 in
set_option maxRecDepth 100000 in
theorem splitSeq_calls (s : ByteArray) (c : UInt8) (w : World) : Calls Tryd.prog 49 #[.string s, .string ⟨#[c]⟩] w fun e w' =>
    e = .returned (.func (.func 82) #[] #[.pointer (some ⟨w.heap.size + 1, 0, none⟩), .pointer (some ⟨w.heap.size, 0, none⟩), .pointer (some ⟨w.heap.size + 2, 0, none⟩)]) ∧ w' = ((w.alloc (.cells #[.string s] 9)).alloc (.cells #[.string ⟨#[c]⟩] 9)).alloc (.cells #[.int .i64 0] 3) := by
  go_enter Tryd.func49, Tryd.ntmps49
  have hmf : ∀ (fn : Fn) (first cap : Array Value) (w : World), (Instr.makeFunc fn first cap).run Tryd.prog w = .ok (.func fn first cap) w := fun _ _ _ _ => rfl
  go_wp2
  go_ret
  exact ⟨rfl, rfl⟩
theorem KeepsOthers.of_below {W W' : World} (hb : Below W.heap.size W W') : KeepsOthers W W' := ⟨hb.size, fun k o hk _ => (hb.block k (heap_lt hk)).trans hk⟩
theorem res_cell4 {tmps : Array Value} {W : World} {r : Nat} {b : Bool} (ht : tmps.getD 4 undef = .pointer (some ⟨r, 0, none⟩)) (h0 : W.cell? ⟨r, 0, none⟩ = some (.bool b)) : (results Tryd.f32 tmps).run Tryd.prog W = .ok (.bool b) W := by
  have e : Tryd.f32.results = #[.cell 4 4] := rfl
  unfold results
  rw [e]
  simp only [List.mapM_toArray, Array.mapM_eq_mapM_toList, List.mapM_cons, List.mapM_nil, ht]
  go_simp
def WordsI (w : World) (fv : Value) (q : ByteArray → Bool) (pre : List ByteArray) (W : World) : Prop :=
  W.heap[w.heap.size]? = some (.cells #[fv] 55 (0, 0)) ∧ W.heap[w.heap.size + 1]? = some (.cells #[.bool false] 4 (0, 0)) ∧ Below w.heap.size w W ∧ pre.all q = true
def WordsX (w : World) (q : ByteArray → Bool) (pre : List ByteArray) (W : World) : Prop :=
  W.heap[w.heap.size + 1]? = some (.cells #[.bool false] 4 (0, 0)) ∧ Below w.heap.size w W ∧ pre.all q = false
set_option maxHeartbeats 8000000 in
set_option maxRecDepth 100000 in
theorem words_in (s : ByteArray) (hs : s.size ≤ 1000000) (gf : Nat) (pw p : ByteArray → Bool) (hg : ∀ args W, (callFunc gf args).run Tryd.prog W = .ok (.enter gf args) W)
    (hw : ∀ x W, x.size ≤ 1000000 → Calls Tryd.prog 50 #[.string x] W fun e W' => e = .returned (.bool (pw x)) ∧ ∃ n, W' = W.drewN n)
    (hp : ∀ x W, x.size ≤ 1000000 → Calls Tryd.prog gf #[.string x] W fun e W' => e = .returned (.bool (p x)) ∧ ∃ n, W' = W.drewN n) (w : World) :
    Calls Tryd.prog 32 #[.string s, .func (.func gf) #[] #[]] w fun e w' => e = .returned (.bool ((spl 46 s).all fun x => pw x && p x)) ∧ Below w.heap.size w w' := by
  have HS := Aside0.mk hs
  have HW := Aside0.mk hw
  have HP := Aside0.mk hp
  have HG := Aside0.mk hg
  clear hs hw hp hg
  refine (callsIn_wide (n := 3)).1 ?_
  refine callsIn_of_wp_marks Tryd.func32 rfl trivial ?_ rfl
  simp only [Tryd.ntmps32, List.size_toArray, List.length_cons, List.length_nil, Nat.reduceAdd, Nat.reduceSub, Array.replicate_succ, Array.replicate_zero, List.push_toArray, List.append_toArray, List.nil_append, List.cons_append]
  gi_wp2_with (refine ⟨trivial, ?_⟩; gi_at_call 49; refine (callsIn_wide.2 (splitSeq_calls s 46 _)).mono ?_; rintro e w' ⟨rfl, rfl⟩)
  have n1 : Below w.heap.size w ((w.alloc (.cells #[.func (.func gf) #[] #[]] 55)).alloc (.cells #[.bool false] 4)) := ((Below.refl _ w).alloc (Nat.le_refl _) _).alloc (by simp) _
  have n2 := ((n1.alloc (by simp; omega) (.cells #[.string s] 9)).alloc (by simp; omega) (.cells #[.string ⟨#[46]⟩] 9)).alloc (by simp; omega) (.cells #[.int .i64 0] 3)
  have E0 : WordsI w (.func (.func gf) #[] #[]) (fun x => pw x && p x) [] (((((w.alloc (.cells #[.func (.func gf) #[] #[]] 55)).alloc (.cells #[.bool false] 4)).alloc (.cells #[.string s] 9)).alloc (.cells #[.string ⟨#[46]⟩] 9)).alloc (.cells #[.int .i64 0] 3)) := by
    refine ⟨?_, ?_, n2, rfl⟩
    · exact blk_alloc (blk_alloc (blk_alloc (blk_alloc (blk_new w _) _) _) _) _
    · refine blk_alloc (blk_alloc (blk_alloc ?_ _) _) _
      have := blk_new (w.alloc (.cells #[.func (.func gf) #[] #[]] 55)) (.cells #[.bool false] 4)
      rwa [World.size_alloc] at this
  have S0 : SeqB (w.heap.size + 1 + 1) 46 s (((((w.alloc (.cells #[.func (.func gf) #[] #[]] 55)).alloc (.cells #[.bool false] 4)).alloc (.cells #[.string s] 9)).alloc (.cells #[.string ⟨#[46]⟩] 9)).alloc (.cells #[.int .i64 0] 3)) := by
    refine ⟨?_, ?_, ?_⟩
    · refine blk_alloc (blk_alloc ?_ _) _
      have := blk_new ((w.alloc (.cells #[.func (.func gf) #[] #[]] 55)).alloc (.cells #[.bool false] 4)) (.cells #[.string s] 9)
      rwa [World.size_alloc, World.size_alloc] at this
    · refine blk_alloc ?_ _
      have := blk_new (((w.alloc (.cells #[.func (.func gf) #[] #[]] 55)).alloc (.cells #[.bool false] 4)).alloc (.cells #[.string s] 9)) (.cells #[.string ⟨#[46]⟩] 9)
      rwa [World.size_alloc, World.size_alloc, World.size_alloc] at this
    · have := blk_new ((((w.alloc (.cells #[.func (.func gf) #[] #[]] 55)).alloc (.cells #[.bool false] 4)).alloc (.cells #[.string s] 9)).alloc (.cells #[.string ⟨#[46]⟩] 9)) (.cells #[.int .i64 0] 3)
      rwa [World.size_alloc, World.size_alloc, World.size_alloc, World.size_alloc] at this
  have Z0 : (((((w.alloc (.cells #[.func (.func gf) #[] #[]] 55)).alloc (.cells #[.bool false] 4)).alloc (.cells #[.string s] 9)).alloc (.cells #[.string ⟨#[46]⟩] 9)).alloc (.cells #[.int .i64 0] 3)).heap.size = w.heap.size + 5 := by simp
  generalize (((((w.alloc (.cells #[.func (.func gf) #[] #[]] 55)).alloc (.cells #[.bool false] 4)).alloc (.cells #[.string s] 9)).alloc (.cells #[.string ⟨#[46]⟩] 9)).alloc (.cells #[.int .i64 0] 3)) = W0 at *
  clear n1 n2
  refine wp_range (n := 1) (gf := 82) rfl (enters_of Tryd.func82 (by kernel_rfl) rfl) (splitSeq_iter 1 (w.heap.size + 1 + 1) 46 s HS.out) (by omega) (fun k hk => by omega) (fun _ => rfl)
    (WordsI w (.func (.func gf) #[] #[]) (fun x => pw x && p x)) (WordsX w (fun x => pw x && p x))
    ⟨fun h hb => ⟨held_grow h.1 hb, held_grow h.2.1 hb, below_step h.2.2.1 hb, h.2.2.2⟩, fun v h => ⟨held_cell h.1 (by omega) v, held_cell h.2.1 (by omega) v, h.2.2.1.setCell (by simp; omega) v, h.2.2.2⟩⟩
    ⟨fun h hb => ⟨held_grow h.1 hb, below_step h.2.1 hb, h.2.2⟩, fun v h => ⟨held_cell h.1 (by omega) v, h.2.1.setCell (by simp; omega) v, h.2.2⟩⟩
    (fun k o hk h _ => ⟨(World.putObj_heap_other (by omega)).trans h.1, (World.putObj_heap_other (by omega)).trans h.2.1, put_below o h.2.2.1 (by omega), h.2.2.2⟩)
    (fun k o hk h _ => ⟨(World.putObj_heap_other (by omega)).trans h.1, put_below o h.2.1 (by omega), h.2.2⟩)
    E0 (fun x => { tmps := #[.string s, .func (.func gf) #[] #[], undef, .pointer (some ⟨w.heap.size, 0, none⟩), .pointer (some ⟨w.heap.size + 1, 0, none⟩), .string x, .string s,
      .func (.func 82) #[] #[.pointer (some ⟨w.heap.size + 1 + 1 + 1, 0, none⟩), .pointer (some ⟨w.heap.size + 1 + 1, 0, none⟩), .pointer (some ⟨w.heap.size + 1 + 1 + 2, 0, none⟩)], .string x, undef, undef, undef, undef, undef, undef, undef, undef, undef], defers := [] })
    (fun W hb => S0.same fun k hk => hb.block k (by omega)) ?assign ?body ?done ?stop
  case assign =>
    intro l x W K hK
    gi_wp2
    exact hK
  case body =>
    intro l pre x post W hx hI
    have hxs : x.size ≤ 1000000 := Nat.le_trans (spl_sizes 46 s x (by rw [hx]; simp)) HS.out
    have cw := Aside0.mk (fun W => HW.out x W hxs)
    have cp := Aside0.mk (fun W => HP.out x W hxs)
    have hg := HG.out
    have k0 : W.cell? ⟨w.heap.size, 0, none⟩ = some (.func (.func gf) #[] #[]) := blk_cell hI.1 0
    have k1 : W.cell? ⟨w.heap.size + 1, 0, none⟩ = some (.bool false) := blk_cell hI.2.1 0
    have k2 : W.frozen? ⟨w.heap.size + 1, 0, none⟩ = false := blk_frozen hI.2.1 0
    replace hI := Aside0.mk hI
    replace hx := Aside0.mk hx
    clear HW HP HG E0 S0
    cases e1 : pw x with
    | false =>
      rw [e1] at cw
      have E1 := Aside0.mk e1
      clear e1
      gi_wp2_with (first
        | (refine ⟨trivial, ?_⟩; gi_at_call 50; refine (CallsIn.inRound l (callsIn_wide.2 (cw.out _))).mono ?_; rintro e w' ⟨rfl, nd, rfl⟩))
      refine ⟨fun _ h => (by cases h), ?_⟩
      gi_wp2
      exact ⟨(KeepsOthers.of_below (pw_below_drewN (Below.refl _ W) nd)).trans (KeepsOthers.setCell _ _ _), blk_put (blk_drewN hI.out.2.1 nd) 0 _ rfl, (pw_below_drewN hI.out.2.2.1 nd).setCell (by simp) _, by rw [List.all_append]; simp [E1.out]⟩
    | true =>
      rw [e1] at cw
      have E1 := Aside0.mk e1
      clear e1
      cases e2 : p x with
      | false =>
        rw [e2] at cp
        have E2 := Aside0.mk e2
        clear e2
        gi_wp2_with (first
          | (refine ⟨trivial, ?_⟩; gi_at_call 50; refine (CallsIn.inRound l (callsIn_wide.2 (cw.out _))).mono ?_; rintro e w' ⟨rfl, nd, rfl⟩)
          | (refine ⟨trivial, ?_⟩; gi_at_fn gf; refine (CallsIn.inRound l (callsIn_wide.2 (cp.out _))).mono ?_; rintro e w' ⟨rfl, nd2, rfl⟩))
        exact ⟨(KeepsOthers.of_below (pw_below_drewN (Below.refl _ W) _)).trans (KeepsOthers.setCell _ _ _), blk_put (blk_drewN hI.out.2.1 _) 0 _ rfl, (pw_below_drewN hI.out.2.2.1 _).setCell (by simp) _, by rw [List.all_append]; simp [E1.out, E2.out]⟩
      | true =>
        rw [e2] at cp
        have E2 := Aside0.mk e2
        clear e2
        gi_wp2_with (first
          | (refine ⟨trivial, ?_⟩; gi_at_call 50; refine (CallsIn.inRound l (callsIn_wide.2 (cw.out _))).mono ?_; rintro e w' ⟨rfl, nd, rfl⟩)
          | (refine ⟨trivial, ?_⟩; gi_at_fn gf; refine (CallsIn.inRound l (callsIn_wide.2 (cp.out _))).mono ?_; rintro e w' ⟨rfl, nd2, rfl⟩))
        exact ⟨KeepsOthers.of_below (pw_below_drewN (Below.refl _ W) _), fun _ _ => rfl, hI.out.1, hI.out.2.1, pw_below_drewN hI.out.2.2.1 _, by rw [List.all_append, hI.out.2.2.2]; simp [E1.out, E2.out]⟩
  case done =>
    intro D W hI hD hDl
    have k1 : W.cell? ⟨w.heap.size + 1, 0, none⟩ = some (.bool false) := blk_cell hI.2.1 0
    have k2 : W.frozen? ⟨w.heap.size + 1, 0, none⟩ = false := blk_frozen hI.2.1 0
    replace hI := Aside0.mk hI
    gi_wp2
    have hb := blk_put hI.out.2.1 0 (.bool true) (cs' := #[.bool true]) rfl
    refine ⟨by simp, .inl ⟨_, _, rfl, run_takeDeferred (held_cell hD (by omega) _), ?_⟩⟩
    have hres := (held_cell hD (by omega) (B := w.heap.size + 1) (.bool true))
    exact ⟨_, res_cell4 (b := true) (r := w.heap.size + 1) rfl (blk_cell (g := w.heap.size + 1) ((World.putObj_heap_other (by omega)).trans hb) 0), by rw [hI.out.2.2.2], put_below _ (hI.out.2.2.1.setCell (by simp) _) (by omega)⟩
  case stop =>
    intro D pre x post W hx hI hD hDl
    have k1 : W.cell? ⟨w.heap.size + 1, 0, none⟩ = some (.bool false) := blk_cell hI.1 0
    replace hI := Aside0.mk hI
    gi_wp2
    refine ⟨by simp, .inl ⟨_, _, rfl, run_takeDeferred hD, ?_⟩⟩
    exact ⟨_, res_cell4 (b := false) (r := w.heap.size + 1) rfl (blk_cell (g := w.heap.size + 1) ((World.putObj_heap_other (by omega)).trans hI.out.1) 0), by
      have h := hI.out.2.2
      rw [hx]
      rw [show pre ++ x :: post = (pre ++ [x]) ++ post by simp, List.all_append, h]; rfl, put_below _ hI.out.2.1 (by omega)⟩
end Go.Proofs.YthoiepkejhhcoaaDoor.P
