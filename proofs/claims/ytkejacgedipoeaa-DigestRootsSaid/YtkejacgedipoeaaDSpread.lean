/- digest's arrays of words: starts, roots, spread; walked by hand. -/
import Derived.Test.YtkejacgedipoeaaPx1
import Derived.Test.YtkejacgedipoeaaPx4
import Derived.Test.YtkejacgedipoeaaDRow
import Derived.Test.YtkejacgedipoeaaQTail
import Derived.Outline
namespace Go.Proofs.Ytkejacgedipoeaa.P
open Go.RowKit Go.Proofs.YtkejacgedipoeaaW.PrintWords Go.Proofs.YtkejacgedipoeaaW.PrintLast Go.Proofs.YtkejacgedipoeaaW.PrintMore Go.Proofs.Ytkejacgedipoeaa.Pl
set_option linter.unusedVariables false
set_option linter.unusedSimpArgs false
def kList : List Int := [1116352408, 1899447441, 3049323471, 3921009573, 961987163, 1508970993, 2453635748, 2870763221, 3624381080, 310598401, 607225278, 1426881987, 1925078388, 2162078206, 2614888103, 3248222580, 3835390401, 4022224774, 264347078, 604807628, 770255983, 1249150122, 1555081692, 1996064986, 2554220882, 2821834349, 2952996808, 3210313671, 3336571891, 3584528711, 113926993, 338241895, 666307205, 773529912, 1294757372, 1396182291, 1695183700, 1986661051, 2177026350, 2456956037, 2730485921, 2820302411, 3259730800, 3345764771, 3516065817, 3600352804, 4094571909, 275423344, 430227734, 506948616, 659060556, 883997877, 958139571, 1322822218, 1537002063, 1747873779, 1955562222, 2024104815, 2227730452, 2361852424, 2428436474, 2756734187, 3204031479, 3329325298]
def hList : List Int := [1779033703, 3144134277, 1013904242, 2773480762, 1359893119, 2600822924, 528734635, 1541459225]
def zerosL (n : Nat) : List Int := List.replicate n 0
theorem zero56 : (Try.prog.info? 56).map (·.zero) = some (some (.agg (u32s (zerosL 64)))) := by kernel_rfl
theorem zero37 : (Try.prog.info? 37).map (·.zero) = some (some (.agg (u32s (zerosL 8)))) := by kernel_rfl
theorem size56 : (Try.prog.info? 56).map (·.size) = some 64 := by kernel_rfl
theorem size37 : (Try.prog.info? 37).map (·.size) = some 8 := by kernel_rfl
theorem size36 : (Try.prog.info? 36).map (·.size) = some 1 := by kernel_rfl
theorem klen : kList.length = 64 := by decide
set_option maxHeartbeats 8000000 in
set_option maxRecDepth 100000 in
theorem roots_calls (w : World) : Calls Try.prog 33 #[] w fun e w' => e = .returned (.agg (u32s kList)) ∧ Below w.heap.size w w' := by
  go_enter Try.func33, Try.ntmps33
  go_wp2_with (first
    | ((with_reducible refine gate_dst (N := 0) rfl ?_); refine step_alloc 0 rfl rfl 56 rfl (zerosL 64) zero56 ?_; intro g hg w1 hr1 hb1 hs1)
    | ((with_reducible refine gate_dst (N := 1) rfl ?_); refine step_build 1 rfl rfl 56 36 64 _ rfl (u32s (zerosL 64)) kList zero56 Try.underlying56 size36 (by kernel_rfl) ?_)
    | ((with_reducible refine gate_store (t := 56) (p := 0) rfl ?_); refine step_store rfl rfl 56 (.tmp 0) (.tmp 1) rfl g (zerosL 64) kList rfl rfl hr1.out rfl size56 ?_; intro w2 hr2 hb2 ho2 hs2))
  refine bodyPost_ret (results_cell_row rfl _ _ g 56 (u32s kList) (0, 0) _ rfl hr2.out Try.underlying56 rfl (by rw [size56, u32s_size]; rfl)) rfl ?_
  exact ⟨rfl, hb1.out.trans (hb2.out.mono (by have := hg.out; omega))⟩
set_option maxHeartbeats 8000000 in
set_option maxRecDepth 100000 in
theorem starts_calls (w : World) : Calls Try.prog 26 #[] w fun e w' => e = .returned (.agg (u32s hList)) ∧ Below w.heap.size w w' := by
  go_enter Try.func26, Try.ntmps26
  go_wp2_with (first
    | ((with_reducible refine gate_dst (N := 0) rfl ?_); refine step_alloc 0 rfl rfl 37 rfl (zerosL 8) zero37 ?_; intro g hg w1 hr1 hb1 hs1)
    | ((with_reducible refine gate_dst (N := 1) rfl ?_); refine step_build 1 rfl rfl 37 36 8 _ rfl (u32s (zerosL 8)) hList zero37 Try.underlying37 size36 (by kernel_rfl) ?_)
    | ((with_reducible refine gate_store (t := 37) (p := 0) rfl ?_); refine step_store rfl rfl 37 (.tmp 0) (.tmp 1) rfl g (zerosL 8) hList rfl rfl hr1.out rfl size37 ?_; intro w2 hr2 hb2 ho2 hs2))
  refine bodyPost_ret (results_cell_row rfl _ _ g 37 (u32s hList) (0, 0) _ rfl hr2.out Try.underlying37 rfl (by rw [size37, u32s_size]; rfl)) rfl ?_
  exact ⟨rfl, hb1.out.trans (hb2.out.mono (by have := hg.out; omega))⟩

/-! The words of a block, and those that come of them. -/
def tU (x n : Int) : Int := Go.bits .or .u32 (shr .u32 x n) (shl .u32 x (32 - n))
theorem turn_is (x : Int) (n : Nat) (hn : n ≤ 32) (W : World) : Calls Try.prog 35 #[.int .u32 x, .int .i64 (n : Int)] W fun e w' => e = .returned (.int .u32 (tU x n)) ∧ Drawn0 W w' := by
  refine digest_turn.calls x n _ W ?_
  unfold digest_turn.f
  have h1 : wrap64 (32 - (n : Int)) = 32 - n := by unfold wrap64; omega
  rw [if_pos (by omega), h1, if_pos (by omega)]
  rfl
theorem quietD {P : Program} {f : FuncId} {args : Array Value} {w : World} {n : Nat} {v : Value}
    (h : Calls P f args (w.drewN n) fun e w' => e = .returned v ∧ Drawn0 (w.drewN n) w') : Calls P f args (w.drewN n) fun e w'' => e = .returned v ∧ ∃ m, w'' = w.drewN m :=
  Calls.quiet_of (h.mono fun _ _ ⟨he, hd⟩ => ⟨he, hd.out⟩)
theorem turn2 (x : Int) (w : World) (m : Nat) : Calls Try.prog 35 #[.int .u32 x, .int .i64 2] (w.drewN m) fun e w'' => e = .returned (.int .u32 (tU x 2)) ∧ ∃ m, w'' = w.drewN m := quietD (turn_is x 2 (by decide) _)
theorem turn6 (x : Int) (w : World) (m : Nat) : Calls Try.prog 35 #[.int .u32 x, .int .i64 6] (w.drewN m) fun e w'' => e = .returned (.int .u32 (tU x 6)) ∧ ∃ m, w'' = w.drewN m := quietD (turn_is x 6 (by decide) _)
theorem turn7 (x : Int) (w : World) (m : Nat) : Calls Try.prog 35 #[.int .u32 x, .int .i64 7] (w.drewN m) fun e w'' => e = .returned (.int .u32 (tU x 7)) ∧ ∃ m, w'' = w.drewN m := quietD (turn_is x 7 (by decide) _)
theorem turn11 (x : Int) (w : World) (m : Nat) : Calls Try.prog 35 #[.int .u32 x, .int .i64 11] (w.drewN m) fun e w'' => e = .returned (.int .u32 (tU x 11)) ∧ ∃ m, w'' = w.drewN m := quietD (turn_is x 11 (by decide) _)
theorem turn13 (x : Int) (w : World) (m : Nat) : Calls Try.prog 35 #[.int .u32 x, .int .i64 13] (w.drewN m) fun e w'' => e = .returned (.int .u32 (tU x 13)) ∧ ∃ m, w'' = w.drewN m := quietD (turn_is x 13 (by decide) _)
theorem turn17 (x : Int) (w : World) (m : Nat) : Calls Try.prog 35 #[.int .u32 x, .int .i64 17] (w.drewN m) fun e w'' => e = .returned (.int .u32 (tU x 17)) ∧ ∃ m, w'' = w.drewN m := quietD (turn_is x 17 (by decide) _)
theorem turn18 (x : Int) (w : World) (m : Nat) : Calls Try.prog 35 #[.int .u32 x, .int .i64 18] (w.drewN m) fun e w'' => e = .returned (.int .u32 (tU x 18)) ∧ ∃ m, w'' = w.drewN m := quietD (turn_is x 18 (by decide) _)
theorem turn19 (x : Int) (w : World) (m : Nat) : Calls Try.prog 35 #[.int .u32 x, .int .i64 19] (w.drewN m) fun e w'' => e = .returned (.int .u32 (tU x 19)) ∧ ∃ m, w'' = w.drewN m := quietD (turn_is x 19 (by decide) _)
theorem turn22 (x : Int) (w : World) (m : Nat) : Calls Try.prog 35 #[.int .u32 x, .int .i64 22] (w.drewN m) fun e w'' => e = .returned (.int .u32 (tU x 22)) ∧ ∃ m, w'' = w.drewN m := quietD (turn_is x 22 (by decide) _)
theorem turn25 (x : Int) (w : World) (m : Nat) : Calls Try.prog 35 #[.int .u32 x, .int .i64 25] (w.drewN m) fun e w'' => e = .returned (.int .u32 (tU x 25)) ∧ ∃ m, w'' = w.drewN m := quietD (turn_is x 25 (by decide) _)
theorem name_world {P : Program} {c : Code} {Q : Exit → Act → World → Prop} {a : Act} {W : World} (φ : World → Prop) (F : φ W) (h : ∀ W1, φ W1 → c.wp P Q a W1) : c.wp P Q a W := h W F
def wordL (s : ByteArray) (i : Nat) : Int := ((digest_word.f s (i : Int)).getD 0)
def mixV (x16 x7 x15 x2 : Int) : Int := (x16 + x7 + Go.bits .xor .u32 (Go.bits .xor .u32 (tU x15 7) (tU x15 18)) (x15 / 8) + Go.bits .xor .u32 (Go.bits .xor .u32 (tU x2 17) (tU x2 19)) (x2 / 1024)) % 4294967296
def spreadV (s : ByteArray) (l : List Int) (i : Nat) : Int :=
  if i < 16 then wordL s i else mixV (l.getD (i - 16) 0) (l.getD (i - 7) 0) (l.getD (i - 15) 0) (l.getD (i - 2) 0)
def spreadL (s : ByteArray) : Nat → List Int
  | 0 => zerosL 64
  | i + 1 => (spreadL s i).set i (spreadV s (spreadL s i) i)
theorem spreadL_length (s : ByteArray) (i : Nat) : (spreadL s i).length = 64 := by
  induction i with
  | zero => rfl
  | succ i ih => simp only [spreadL, List.length_set, ih]
set_option maxHeartbeats 8000000 in
set_option maxRecDepth 100000 in
theorem spread_calls (s : ByteArray) (w : World) (hw : Aside0 (∀ i : Nat, i < 16 → digest_word.f s (i : Int) = some (wordL s i))) :
    Calls Try.prog 34 #[.string s] w fun e w' => e = .returned (.agg (u32s (spreadL s 64))) ∧ Below w.heap.size w w' := by
  go_enter Try.func34, Try.ntmps34
  go_wp2_with (first
    | ((with_reducible refine gate_dst (N := 2) rfl ?_); refine step_alloc 2 rfl rfl 56 rfl (zerosL 64) zero56 ?_; intro g hg w1 hr1 hb1 hs1)
    | ((with_reducible refine gate_dst (N := 3) rfl ?_); refine step_alloc 3 rfl rfl 56 rfl (zerosL 64) zero56 ?_; intro g2 hg2 w2 hr2 hb2 hs2))
  have hgg : Aside0 (g < g2) := ⟨by have := hg.out; have := hg2.out; have := hs1.out; omega⟩
  have G2 : Aside0 (w.heap.size ≤ g) := ⟨by have := hg.out; omega⟩
  have R1 := Aside0.mk (hr1.out.below hb2.out (by have := hgg.out; have := hg2.out; omega))
  have R2 := hr2
  have HB := Aside0.mk (hb1.out.trans (hb2.out.mono (by have := hs1.out; omega)))
  clear hr1 hr2 hb1 hb2 hs1 hs2 hg hg2
  go_loopg [7] 64 (fun kq v7 w' => ∃ i : Nat, v7 = .int .i64 (i : Int) ∧ Aside0 (kq + i = 64) ∧ Aside0 (URow w' g2 56 (spreadL s i)) ∧ Aside0 (URow w' g 56 (zerosL 64)) ∧ Aside0 (Below w.heap.size w w'))
  case atStart => exact ⟨0, rfl, ⟨rfl⟩, R2, R1, HB⟩
  case round =>
    clear R1 R2 HB
    obtain ⟨i, rfl, HK, R2, R1, HB⟩ := hrel
    cases gk with
    | zero => 
      have c0 : decide ((i : Int) < 64) = false := decide_eq_false (by have := HK.out; omega)
      obtain rfl : i = 64 := by have := HK.out; omega
      go_wp2_with (first
        | ((with_reducible refine gate_dst (N := 55) rfl ?_); refine step_load 55 rfl rfl 56 (.tmp 3) rfl g2 (spreadL s 64) rfl R2.out _ Try.underlying56 rfl (by rw [size56, spreadL_length]) ?_)
        | ((with_reducible refine gate_store (t := 56) (p := 2) rfl ?_); refine step_store rfl rfl 56 (.tmp 2) (.tmp 55) rfl g (zerosL 64) (spreadL s 64) rfl rfl R1.out (by rw [spreadL_length]; rfl) (by rw [size56, spreadL_length]) ?_; intro w3 hr3 hb3 ho3 hs3))
      refine bodyPost_ret (results_cell_row rfl _ _ g 56 (u32s (spreadL s 64)) (0, 0) _ rfl hr3.out Try.underlying56 rfl (by rw [size56, u32s_size, spreadL_length])) rfl ?_
      exact ⟨rfl, HB.out.trans (hb3.out.mono G2.out)⟩
    | succ k1 =>
      have c0 : decide ((i : Int) < 64) = true := decide_eq_true (by have := HK.out; omega)
      by_cases c : i < 16
      · have c1 : decide ((i : Int) < 16) = true := decide_eq_true (by omega)
        have e1 := (R2.out.cell i (by rw [spreadL_length]; omega))
        have e2 := R2.out.frozen i
        have hx : 0 ≤ (i : Int) ∧ (i : Int) < 64 := ⟨by omega, by omega⟩
        have hv := Aside0.mk (hw.out i c)
        go_wp2_with (go_at_call 21; (with_reducible refine (digest_word.calls s i _ _ hv.out).mono ?_); rintro e w' ⟨rfl, ⟨nd, rfl⟩⟩)
        go_roundg k1
        case measure => omega
        case rel =>
          refine ⟨i + 1, rfl, ⟨by have := HK.out; omega⟩, ⟨?_⟩, ⟨(R1.out.drewN nd).far (by have := hgg.out; simp; omega) _⟩, ⟨(pw_below_drewN HB.out nd).setCell (by have := hgg.out; have := G2.out; simp; omega) _⟩⟩
          have := (R2.out.drewN nd).set i (wordL s i)
          simpa only [spreadL, spreadV, if_pos c] using this
      · have c1 : decide ((i : Int) < 16) = false := decide_eq_false (by omega)
        have hil := HK.out
        have L := spreadL_length s i
        have e1 := (R2.out.cell i (by omega))
        have f1 := R2.out.frozen i
        have e15 := (R2.out.cell (i - 15) (by omega))
        have e2 := (R2.out.cell (i - 2) (by omega))
        have e16 := (R2.out.cell (i - 16) (by omega))
        have e7 := (R2.out.cell (i - 7) (by omega))
        obtain ⟨x15, hx15⟩ : ∃ x, (spreadL s i).getD (i - 15) 0 = x := ⟨_, rfl⟩
        obtain ⟨x2, hx2⟩ : ∃ x, (spreadL s i).getD (i - 2) 0 = x := ⟨_, rfl⟩
        obtain ⟨x16, hx16⟩ : ∃ x, (spreadL s i).getD (i - 16) 0 = x := ⟨_, rfl⟩
        obtain ⟨x7, hx7⟩ : ∃ x, (spreadL s i).getD (i - 7) 0 = x := ⟨_, rfl⟩
        rw [hx15] at e15
        rw [hx2] at e2
        rw [hx16] at e16
        rw [hx7] at e7
        replace hx15 := Aside0.mk hx15
        replace hx2 := Aside0.mk hx2
        replace hx16 := Aside0.mk hx16
        replace hx7 := Aside0.mk hx7
        have t15 : ((i : Int) - 15).toNat = i - 15 := by omega
        have t2 : ((i : Int) - 2).toNat = i - 2 := by omega
        have t16 : ((i : Int) - 16).toNat = i - 16 := by omega
        have t7 : ((i : Int) - 7).toNat = i - 7 := by omega
        have b15 : 15 ≤ (i : Int) ∧ (i : Int) - 15 < 64 := ⟨by omega, by omega⟩
        have b2 : 2 ≤ (i : Int) ∧ (i : Int) - 2 < 64 := ⟨by omega, by omega⟩
        have b16 : 16 ≤ (i : Int) ∧ (i : Int) - 16 < 64 := ⟨by omega, by omega⟩
        have b7 : 7 ≤ (i : Int) ∧ (i : Int) - 7 < 64 := ⟨by omega, by omega⟩
        have w15 : IntKind.i64.wrap ((i : Int) - 15) = i - 15 := by rw [IntKind.wrap_i64]; omega
        have w2 : IntKind.i64.wrap ((i : Int) - 2) = i - 2 := by rw [IntKind.wrap_i64]; omega
        have w16 : IntKind.i64.wrap ((i : Int) - 16) = i - 16 := by rw [IntKind.wrap_i64]; omega
        have w7 : IntKind.i64.wrap ((i : Int) - 7) = i - 7 := by rw [IntKind.wrap_i64]; omega
        have hx : 0 ≤ (i : Int) ∧ (i : Int) < 64 := ⟨by omega, by omega⟩
        clear hil L
        go_wp2
        go_quiet (fail)
        go_wp2
        refine name_world (fun W => W.cell? ⟨g2, i, none⟩ = some (.int .u32 ((spreadL s i).getD i 0)) ∧ W.frozen? ⟨g2, i, none⟩ = false ∧ W.cell? ⟨g2, i - 16, none⟩ = some (.int .u32 x16) ∧ W.cell? ⟨g2, i - 7, none⟩ = some (.int .u32 x7) ∧ Aside0 (URow W g2 56 (spreadL s i)) ∧ Aside0 (URow W g 56 (zerosL 64)) ∧ Aside0 (Below w.heap.size w W)) ⟨e1, f1, e16, e7, ⟨R2.out.drewN nq⟩, ⟨R1.out.drewN nq⟩, ⟨pw_below_drewN HB.out nq⟩⟩ ?_
        clear e1 f1 e16 e7 R1 R2 HB e2 e15
        rintro wq ⟨e1, f1, e16, e7, R2, R1, HB⟩
        refine Q.wp_quiet_tail 29 (by kernel_rfl) (by kernel_rfl) ?_
        simp only [List.take_succ_cons, List.take_zero, List.drop_succ_cons, List.drop_zero]
        repeat (quiet_step ((go_at_call 35; first | with_reducible exact turn7 _ _ _ | with_reducible exact turn18 _ _ _ | with_reducible exact turn17 _ _ _ | with_reducible exact turn19 _ _ _)))
        refine wpQuiet_nil ?_
        intro _ hw'
        obtain ⟨nq2, hw''⟩ := hw'
        subst hw''
        go_wp2
        go_roundg k1
        case measure => omega
        case rel =>
          refine ⟨i + 1, rfl, ⟨by have := HK.out; omega⟩, ⟨?_⟩, ⟨(R1.out.drewN nq2).far (by have := hgg.out; simp; omega) _⟩, ⟨(pw_below_drewN HB.out nq2).setCell (by have := hgg.out; have := G2.out; simp; omega) _⟩⟩
          have hfin := (R2.out.drewN nq2).set i (mixV x16 x7 x15 x2)
          rw [← hx16.out, ← hx7.out, ← hx15.out, ← hx2.out] at hfin ⊢
          simp only [spreadL, spreadV, if_neg c]
          exact hfin
end Go.Proofs.Ytkejacgedipoeaa.P
