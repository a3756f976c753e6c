/- digest.bytes, digest.Block: walked by hand. -/
import Derived.Test.YtkejacgedipoeaaDRoll
namespace Go.Proofs.Ytkejacgedipoeaa.P
open Go.RowKit Go.Proofs.YtkejacgedipoeaaW.PrintWords Go.Proofs.YtkejacgedipoeaaW.PrintLast Go.Proofs.YtkejacgedipoeaaW.PrintMore Go.Proofs.Ytkejacgedipoeaa.Pl
set_option linter.unusedVariables false
set_option linter.unusedSimpArgs false
theorem wrap_succ (i : Nat) (h : i < 1000) : Value.int .i64 (wrap64 ((i : Int) + 1)) = Value.int .i64 ((i + 1 : Nat) : Int) := by
  have h1 : wrap64 ((i : Int) + 1) = ((i + 1 : Nat) : Int) := by unfold wrap64; omega
  rw [h1]
def bytes4 (x : Int) : List Int := [x / 16777216 % 256, x / 65536 % 256, x / 256 % 256, x % 256]
def bytesTo (l : List Int) : Nat → List Int
  | 0 => []
  | i + 1 => bytesTo l i ++ bytes4 (l.getD i 0)
theorem bytesTo_length (l : List Int) (i : Nat) : (bytesTo l i).length = 4 * i := by
  induction i with
  | zero => rfl
  | succ i ih => simp only [bytesTo, List.length_append, ih, bytes4, List.length_cons, List.length_nil]; omega
set_option maxHeartbeats 8000000 in
set_option maxRecDepth 100000 in
theorem bytes_calls (h : V8) (w : World) : Calls Try.prog 22 #[.agg (u32s h.list)] w fun e w' => e = .returned (.string (strOfNums (bytesTo h.list 8))) ∧ Below w.heap.size w w' := by
  obtain ⟨v0, hv0⟩ : ∃ v, v = Value.agg (u32s h.list) := ⟨_, rfl⟩
  rw [← hv0]
  replace hv0 := Aside0.mk hv0
  go_enter Try.func22, Try.ntmps22
  go_wp2_with (first
    | ((with_reducible refine gate_dst (N := 1) rfl ?_); refine step_box 1 rfl rfl 37 (.tmp 0) rfl h.list hv0.out ?_; intro g hg w1 hr1 hb1 hs1)
    | ((with_reducible refine gate_dst (N := 6) rfl ?_); refine step_load 6 rfl rfl 37 (.tmp 1) rfl g h.list rfl hr1.out _ Try.underlying37 rfl size37 ?_; rw [← hv0.out]))
  have HB := hb1
  clear hb1 hr1 hs1 hg
  go_loopg [3, 7] 8 (fun kq v3 v7 w' => ∃ (i : Nat) (xs : List Int), v7 = .int .i64 (i : Int) ∧ Aside0 (xs = bytesTo h.list i) ∧ Aside0 (kq + i = 8) ∧ Aside0 (Kd.R (Kd.int .u8) 5 w' w.heap.size (fun _ => True) v3 xs) ∧ Aside0 (Below w.heap.size w w'))
  case atStart => exact ⟨0, [], rfl, ⟨rfl⟩, ⟨rfl⟩, ⟨Kd.R_nil _ _ _ _ _⟩, HB⟩
  case round =>
    clear HB
    obtain ⟨i, xs, rfl, HX, HK, HO, HB⟩ := hrel
    cases gk with
    | zero =>
      have c0 : decide ((i : Int) < 8) = false := decide_eq_false (by have := HK.out; omega)
      obtain rfl : i = 8 := by have := HK.out; omega
      have hcv := own_string (P := Try.prog) Try.underlying32 Try.underlying5 Try.underlying9 (Kd.own_of_R HO.out)
      go_wp2
      go_ret
      refine ⟨?_, HB.out⟩
      rw [← HX.out]
      rfl
    | succ k1 =>
      have c0 : decide ((i : Int) < 8) = true := decide_eq_true (by have := HK.out; omega)
      have hi : Aside0 (i < 8) := ⟨by have := HK.out; omega⟩
      have hxl : Aside0 (xs.length = 4 * i) := ⟨by rw [HX.out, bytesTo_length]⟩
      obtain ⟨x, hx⟩ : ∃ x, h.list.getD i 0 = x := ⟨_, rfl⟩
      replace hx := Aside0.mk hx
      go_wp2_with (first
        | ((with_reducible refine gate_dst (N := 9) rfl ?_); refine step_index 9 rfl rfl 37 36 8 (.tmp 6) (.tmp 7) rfl h.list i hv0.out rfl Try.underlying37 Try.underlying36 size36 hi.out rfl ?_; rw [hx.out])
        | ((with_reducible refine gate_dst (N := 22) rfl ?_); refine Kd.R_lit (Kd.int .u8) _ 5 ?hg (N := 22) ?hd (xs := bytes4 x) (inner := [.int .u8 (x / 16777216 % 256), .int .u8 (x / 65536 % 256), .int .u8 (x / 256 % 256), .int .u8 (x % 256)]) (ok := fun _ => True) (okp := fun _ => True) ?hr ?hp (fun _ hk => hk) trivial (Below.refl _ _) (Nat.le_refl _) (by simp [bytes4]) ?_; (case hd => rfl); (case hg => rfl); (case hr => first | (go_simp; done) | (go_simp; rfl)); (case hp => exact (Reps.one (show Kd.M (Kd.int .u8) _ _ _ (x / 16777216 % 256) [.int .u8 (x / 16777216 % 256)] from rfl) (Reps.one (show Kd.M (Kd.int .u8) _ _ _ (x / 65536 % 256) [.int .u8 (x / 65536 % 256)] from rfl) (Reps.one (show Kd.M (Kd.int .u8) _ _ _ (x / 256 % 256) [.int .u8 (x / 256 % 256)] from rfl) (Reps.one (show Kd.M (Kd.int .u8) _ _ _ (x % 256) [.int .u8 (x % 256)] from rfl) (Reps.none _ _)))))); intro v4 w4 ho4 hb hg_ hnew_; clear hg_ hnew_;
            have n0_ := Aside0.mk (Kd.R_elder' HO.out (Kd.R_base ho4) hb); have n1_ := Aside0.mk (Kd.R_lower (Kd.R_new' ho4 (Kd.R_lt HO.out)) HB.out.size); have n2_ := Aside0.mk (below_step HB.out hb); clear HO HB hb ho4; have HO := n0_; have HO4 := n1_; have HB := n2_; clear n0_ n1_ n2_; obtain ⟨A4, c4, e4⟩ := Kd.R_slice HO4.out; subst e4)
        | ((with_reducible refine gate_builtin (b := .append) (xs := #[.tmp 10, .tmp 22]) rfl ?_); at_builtin; refine Kd.R_append_rows (Kd.int .u8) (w0 := w) w.heap.size (by rfl) (.tmp 10) (.tmp 22) 32 5 (.int .u8 0) 1 rfl Try.underlying32 info5 rfl (by decide) (by omega) u3 xs (bytes4 x) _ _ _ (fun k_ => some k_ ≠ (.slice A4 (bytes4 x).length c4 : Value).ownBlock) (fun _ => False) rfl rfl ?aO ?aR (fun _ _ h => h) (fun _ h => h.elim) ?aF ?aB ?aS ?aL ?_;
            (case aR => exact (Kd.R_reads' HO4.out).2.2); (case aB => exact HB.out); (case aF => exact (fun k_ hk => Kd.fresh' (Kd.R_lt HO4.out) k_ hk)); (case aO => exact Kd.R_mono HO.out (fun _ hk => hk.2)); (case aS => exact HB.out.size); (case aL => have := hxl.out; have := hi.out; simp only [bytes4, List.length_cons, List.length_nil]; omega); intro v5 w5 ho hb hg hat; have n1_ := Aside0.mk hb; have n2_ := Aside0.mk ho; clear HO4 HB HO ho hb hg hat; have HB := n1_; have HO := n2_; clear n1_ n2_))
      go_roundg k1
      case measure => omega
      case rel =>
        refine ⟨i + 1, xs ++ bytes4 x, wrap_succ i (by have := hi.out; omega), ⟨?_⟩, ⟨by have := HK.out; omega⟩, ⟨Kd.R_mono HO.out (fun _ _ => trivial)⟩, HB⟩
        rw [HX.out, ← hx.out, bytesTo]

theorem word_some (s : ByteArray) (i : Nat) (hs : 4 * i + 4 ≤ s.size) (hm : s.size ≤ 140737488351232) : digest_word.f s (i : Int) = some (wordL s i) := by
  have h0 : wrap64 (4 * (i : Int)) = 4 * i := by unfold wrap64; omega
  have h1 : wrap64 (4 * (i : Int) + 1) = 4 * i + 1 := by unfold wrap64; omega
  have h2 : wrap64 (4 * (i : Int) + 2) = 4 * i + 2 := by unfold wrap64; omega
  have h3 : wrap64 (4 * (i : Int) + 3) = 4 * i + 3 := by unfold wrap64; omega
  unfold wordL
  obtain ⟨r, hr⟩ : ∃ r, digest_word.f s (i : Int) = some r := by
    unfold digest_word.f
    rw [h0, h1, h2, h3]
    repeat rw [if_pos (by omega)]
    exact ⟨_, rfl⟩
  rw [hr]; rfl
def wordsV (s : ByteArray) : V8 := ⟨wordL s 0, wordL s 1, wordL s 2, wordL s 3, wordL s 4, wordL s 5, wordL s 6, wordL s 7⟩
def wordsTo (s : ByteArray) : Nat → List Int
  | 0 => zerosL 8
  | i + 1 => (wordsTo s i).set i (wordL s i)
theorem wordsTo_length (s : ByteArray) (i : Nat) : (wordsTo s i).length = 8 := by
  induction i with
  | zero => rfl
  | succ i ih => simp only [wordsTo, List.length_set, ih]
theorem wordsTo_eight (s : ByteArray) : wordsTo s 8 = (wordsV s).list := by
  simp [wordsTo, zerosL, wordsV, V8.list, List.replicate]
def digest_Block.f (a0 : ByteArray) (a1 : ByteArray) : Option (ByteArray × Bool) := if a0.size = 32 ∧ a1.size = 64 then some (strOfNums (bytesTo (rolledV (wordsV a0) a1).list 8), true) else some (⟨#[]⟩, false)
set_option maxHeartbeats 8000000 in
set_option maxRecDepth 100000 in
theorem block_yes (a0 a1 : ByteArray) (w : World) (h0 : a0.size = 32) (h1 : a1.size = 64) : Calls Try.prog 9 #[.string a0, .string a1] w fun e w' => e = .returned (.tuple #[.string (strOfNums (bytesTo (rolledV (wordsV a0) a1).list 8)), .bool true]) ∧ Below w.heap.size w w' := by
  have hw : Aside0 (∀ i : Nat, i < 8 → digest_word.f a0 (i : Int) = some (wordL a0 i)) := ⟨fun i hi => word_some a0 i (by omega) (by omega)⟩
  have hw1 : Aside0 (∀ i : Nat, i < 16 → digest_word.f a1 (i : Int) = some (wordL a1 i)) := ⟨fun i hi => word_some a1 i (by omega) (by omega)⟩
  obtain ⟨vr, hvr⟩ : ∃ v, v = Value.agg (u32s (rolledV (wordsV a0) a1).list) := ⟨_, rfl⟩
  obtain ⟨vs, hvs⟩ : ∃ v, v = Value.agg (u32s (wordsV a0).list) := ⟨_, rfl⟩
  obtain ⟨rb, hrb⟩ : ∃ b, b = strOfNums (bytesTo (rolledV (wordsV a0) a1).list 8) := ⟨_, rfl⟩
  have hroll : ∀ W, Calls Try.prog 23 #[vs, .string a1] W fun e w' => e = .returned vr ∧ Below W.heap.size W w' := fun W => by rw [hvr, hvs]; exact roll_calls _ _ W hw1
  have hbytes : ∀ W, Calls Try.prog 22 #[vr] W fun e w' => e = .returned (.string rb) ∧ Below W.heap.size W w' := fun W => by rw [hvr, hrb]; exact bytes_calls _ W
  rw [← hrb]
  replace hroll := Aside0.mk hroll
  replace hbytes := Aside0.mk hbytes
  replace hvr := Aside0.mk hvr
  replace hvs := Aside0.mk hvs
  replace hrb := Aside0.mk hrb
  have d0 : ((a0.size : Int) != 32) = false := by rw [h0]; rfl
  have d1 : ((a1.size : Int) != 64) = false := by rw [h1]; rfl
  have d2 : decide (a0.size = 32) = true := decide_eq_true h0
  have d3 : decide (a1.size = 64) = true := decide_eq_true h1
  have g0 := Aside0.mk h0
  have g1 := Aside0.mk h1
  clear h0 h1
  go_enter Try.func9, Try.ntmps9
  go_wp2_with ((with_reducible refine gate_dst (N := 6) rfl ?_); refine step_alloc 6 rfl rfl 37 rfl (zerosL 8) zero37 ?_; intro g hg w1 hr1 hb1 hs1)
  have G := hg
  have R := hr1
  have HB := hb1
  clear hg hr1 hb1 hs1 d0 d1 d2 d3
  go_loopg [16] 8 (fun kq v16 w' => ∃ i : Nat, v16 = .int .i64 (i : Int) ∧ Aside0 (kq + i = 8) ∧ Aside0 (URow w' g 37 (wordsTo a0 i)) ∧ Aside0 (Below w.heap.size w w'))
  case atStart => exact ⟨0, rfl, ⟨rfl⟩, R, HB⟩
  case round =>
    clear R HB
    obtain ⟨i, rfl, HK, R, HB⟩ := hrel
    cases gk with
    | zero =>
      have c0 : decide ((i : Int) < 8) = false := decide_eq_false (by have := HK.out; omega)
      obtain rfl : i = 8 := by have := HK.out; omega
      go_wp2_with (first
        | ((with_reducible refine gate_dst (N := 25) rfl ?_); refine step_load 25 rfl rfl 37 (.tmp 6) rfl g (wordsTo a0 8) rfl R.out _ Try.underlying37 rfl size37 ?_; rw [wordsTo_eight, ← hvs.out])
        | (go_at_call 23; (with_reducible refine (hroll.out _).mono ?_); rintro e w4 ⟨rfl, hb4⟩; replace hb4 := Aside0.mk hb4)
        | (go_at_call 22; (with_reducible refine (hbytes.out _).mono ?_); rintro e w5 ⟨rfl, hb5⟩; replace hb5 := Aside0.mk hb5))
      go_ret2
      exact ⟨rfl, (HB.out.trans (hb4.out.mono HB.out.size)).trans (hb5.out.mono (HB.out.trans (hb4.out.mono HB.out.size)).size)⟩
    | succ k1 =>
      have c0 : decide ((i : Int) < 8) = true := decide_eq_true (by have := HK.out; omega)
      have hi : Aside0 (i < 8) := ⟨by have := HK.out; omega⟩
      have hx : 0 ≤ (i : Int) ∧ (i : Int) < 8 := ⟨by omega, by have := hi.out; omega⟩
      have e1 := R.out.cell i (by rw [wordsTo_length]; exact hi.out)
      have e2 := R.out.frozen i
      have hv := Aside0.mk (hw.out i hi.out)
      go_wp2_with (go_at_call 21; (with_reducible refine (digest_word.calls a0 i _ _ hv.out).mono ?_); rintro e w' ⟨rfl, ⟨nd, rfl⟩⟩)
      go_roundg k1
      case measure => omega
      case rel =>
        refine ⟨i + 1, rfl, ⟨by have := HK.out; omega⟩, ⟨?_⟩, ⟨(pw_below_drewN HB.out nd).setCell (by have := G.out; simp; omega) _⟩⟩
        exact (R.out.drewN nd).set i (wordL a0 i)
set_option maxHeartbeats 4000000 in
set_option maxRecDepth 100000 in
theorem block_no (a0 a1 : ByteArray) (w : World) (h : ¬ (a0.size = 32 ∧ a1.size = 64)) : Calls Try.prog 9 #[.string a0, .string a1] w fun e w' => e = .returned (.tuple #[.string ⟨#[]⟩, .bool false]) ∧ Below w.heap.size w w' := by
  have HB := Below.refl w.heap.size w
  by_cases h0 : a0.size = 32
  · have h1 : ¬ a1.size = 64 := fun e => h ⟨h0, e⟩
    have d0 : ((a0.size : Int) != 32) = false := by rw [h0]; rfl
    have d1 : ((a1.size : Int) != 64) = true := by simp; omega
    have d2 : decide (a0.size = 32) = true := decide_eq_true h0
    have d3 : decide (a1.size = 64) = false := decide_eq_false h1
    clear h0 h h1
    go_enter Try.func9, Try.ntmps9
    go_wp2
    go_ret2
    exact ⟨rfl, HB⟩
  · have d0 : ((a0.size : Int) != 32) = true := by simp; omega
    have d2 : decide (a0.size = 32) = false := decide_eq_false h0
    clear h0 h
    go_enter Try.func9, Try.ntmps9
    go_wp2
    go_ret2
    exact ⟨rfl, HB⟩
theorem digest_Block.calls (a0 : ByteArray) (a1 : ByteArray) (r1 : ByteArray) (r2 : Bool) (w : World) (h : digest_Block.f a0 a1 = some (r1, r2)) :
    Calls Try.prog 9 #[.string a0, .string a1] w fun e w' => e = .returned (.tuple #[.string r1, .bool r2]) ∧ Below w.heap.size w w' := by
  unfold digest_Block.f at h
  by_cases c : a0.size = 32 ∧ a1.size = 64
  · rw [if_pos c] at h
    simp only [Option.some.injEq, Prod.mk.injEq] at h
    obtain ⟨rfl, rfl⟩ := h
    exact block_yes a0 a1 w c.1 c.2
  · rw [if_neg c] at h
    simp only [Option.some.injEq, Prod.mk.injEq] at h
    obtain ⟨rfl, rfl⟩ := h
    exact block_no a0 a1 w c
end Go.Proofs.Ytkejacgedipoeaa.P
