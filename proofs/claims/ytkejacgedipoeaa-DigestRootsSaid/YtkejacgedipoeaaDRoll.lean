/- digest.roll, walked by hand. -/
import Derived.Test.YtkejacgedipoeaaDSpread
namespace Go.Proofs.Ytkejacgedipoeaa.P
open Go.RowKit Go.Proofs.YtkejacgedipoeaaW.PrintWords Go.Proofs.YtkejacgedipoeaaW.PrintLast Go.Proofs.YtkejacgedipoeaaW.PrintMore Go.Proofs.Ytkejacgedipoeaa.Pl
set_option linter.unusedVariables false
set_option linter.unusedSimpArgs false

/-- Eight words. -/
structure V8 where
  a : Int
  b : Int
  c : Int
  d : Int
  e : Int
  f : Int
  g : Int
  z : Int
def V8.list (v : V8) : List Int := [v.a, v.b, v.c, v.d, v.e, v.f, v.g, v.z]
def stepT (k w : Int) (v : V8) : Int := v.z + Go.bits .xor .u32 (Go.bits .xor .u32 (tU v.e 6) (tU v.e 11)) (tU v.e 25) + Go.bits .xor .u32 (Go.bits .and .u32 v.e v.f) (Go.bits .and .u32 (Go.bits .xor .u32 IntKind.u32.max v.e) v.g) + k + w
def stepU (v : V8) : Int := Go.bits .xor .u32 (Go.bits .xor .u32 (tU v.a 2) (tU v.a 13)) (tU v.a 22) + Go.bits .xor .u32 (Go.bits .xor .u32 (Go.bits .and .u32 v.a v.b) (Go.bits .and .u32 v.a v.c)) (Go.bits .and .u32 v.b v.c)
def stepV (k w : Int) (v : V8) : V8 := ⟨(stepT k w v + stepU v) % 4294967296, v.a, v.b, v.c, (v.d + stepT k w v) % 4294967296, v.e, v.f, v.g⟩
def rollV (h : V8) (s : ByteArray) : Nat → V8
  | 0 => h
  | i + 1 => stepV (kList.getD i 0) ((spreadL s 64).getD i 0) (rollV h s i)
def addV (h v : V8) : V8 := ⟨(h.a + v.a) % 4294967296, (h.b + v.b) % 4294967296, (h.c + v.c) % 4294967296, (h.d + v.d) % 4294967296, (h.e + v.e) % 4294967296, (h.f + v.f) % 4294967296, (h.g + v.g) % 4294967296, (h.z + v.z) % 4294967296⟩
def rolledV (h : V8) (s : ByteArray) : V8 := addV h (rollV h s 64)
theorem turnC2 (x : Int) (W : World) : Calls Try.prog 35 #[.int .u32 x, .int .i64 2] W fun e w' => e = .returned (.int .u32 (tU x 2)) ∧ Drawn0 W w' := turn_is x 2 (by decide) W
theorem turnC13 (x : Int) (W : World) : Calls Try.prog 35 #[.int .u32 x, .int .i64 13] W fun e w' => e = .returned (.int .u32 (tU x 13)) ∧ Drawn0 W w' := turn_is x 13 (by decide) W
theorem turnC22 (x : Int) (W : World) : Calls Try.prog 35 #[.int .u32 x, .int .i64 22] W fun e w' => e = .returned (.int .u32 (tU x 22)) ∧ Drawn0 W w' := turn_is x 22 (by decide) W
theorem fill8 (a b c d e f g z : Int) : Instr.fill (fun i => some (i, 1)) (u32s (zerosL 8)) [(0, .int .u32 a), (1, .int .u32 b), (2, .int .u32 c), (3, .int .u32 d), (4, .int .u32 e), (5, .int .u32 f), (6, .int .u32 g), (7, .int .u32 z)] = some (u32s [a, b, c, d, e, f, g, z]) := by
  kernel_rfl
set_option maxHeartbeats 8000000 in
set_option maxRecDepth 100000 in
theorem roll_calls (h : V8) (s : ByteArray) (w : World) (hw : Aside0 (∀ i : Nat, i < 16 → digest_word.f s (i : Int) = some (wordL s i))) :
    Calls Try.prog 23 #[.agg (u32s h.list), .string s] w fun e w' => e = .returned (.agg (u32s (rolledV h s).list)) ∧ Below w.heap.size w w' := by
  obtain ⟨v0, hv0⟩ : ∃ v, v = Value.agg (u32s h.list) := ⟨_, rfl⟩
  rw [← hv0]
  replace hv0 := Aside0.mk hv0
  go_enter Try.func23, Try.ntmps23
  go_wp2_with (first
    | ((with_reducible refine gate_dst (N := 2) rfl ?_); refine step_box 2 rfl rfl 37 (.tmp 0) rfl h.list hv0.out ?_; intro g hg w1 hr1 hb1 hs1)
    | ((with_reducible refine gate_dst (N := 4) rfl ?_); refine step_alloc 4 rfl rfl 37 rfl (zerosL 8) zero37 ?_; intro g2 hg2 w2 hr2 hb2 hs2))
  have hgg : Aside0 (g < g2) := ⟨by have := hg.out; have := hg2.out; have := hs1.out; omega⟩
  have G2 : Aside0 (w.heap.size ≤ g) := ⟨by have := hg.out; omega⟩
  have R1 := Aside0.mk (hr1.out.below hb2.out (by have := hgg.out; have := hg2.out; omega))
  have R2 := hr2
  have L2 : Aside0 (g2 < w2.heap.size) := ⟨by have := hg2.out; have := hs2.out; omega⟩
  have HB := Aside0.mk (hb1.out.trans (hb2.out.mono (by have := hs1.out; omega)))
  clear hr1 hr2 hb1 hb2 hs1 hs2 hg hg2
  have e0 : w2.cell? ⟨g, 0, none⟩ = some (.int .u32 h.a) := R1.out.cell 0 (by simp [V8.list])
  have e1 : w2.cell? ⟨g, 1, none⟩ = some (.int .u32 h.b) := R1.out.cell 1 (by simp [V8.list])
  have e2 : w2.cell? ⟨g, 2, none⟩ = some (.int .u32 h.c) := R1.out.cell 2 (by simp [V8.list])
  have e3 : w2.cell? ⟨g, 3, none⟩ = some (.int .u32 h.d) := R1.out.cell 3 (by simp [V8.list])
  have e4 : w2.cell? ⟨g, 4, none⟩ = some (.int .u32 h.e) := R1.out.cell 4 (by simp [V8.list])
  have e5 : w2.cell? ⟨g, 5, none⟩ = some (.int .u32 h.f) := R1.out.cell 5 (by simp [V8.list])
  have e6 : w2.cell? ⟨g, 6, none⟩ = some (.int .u32 h.g) := R1.out.cell 6 (by simp [V8.list])
  have e7 : w2.cell? ⟨g, 7, none⟩ = some (.int .u32 h.z) := R1.out.cell 7 (by simp [V8.list])
  go_quiet (fail)
  have R1' := Aside0.mk (R1.out.drewN nq)
  have R2' := Aside0.mk (R2.out.drewN nq)
  have L2' : Aside0 (g2 < (w2.drewN nq).heap.size) := ⟨L2.out⟩
  have HB' := Aside0.mk (pw_below_drewN HB.out nq)
  clear e0 e1 e2 e3 e4 e5 e6 e7 R1 R2 HB L2
  generalize w2.drewN nq = w3 at *
  obtain ⟨vk, hvk⟩ : ∃ v, v = Value.agg (u32s kList) := ⟨_, rfl⟩
  obtain ⟨vs, hvs⟩ : ∃ v, v = Value.agg (u32s (spreadL s 64)) := ⟨_, rfl⟩
  have hroots : ∀ W, Calls Try.prog 33 #[] W fun e w' => e = .returned vk ∧ Below W.heap.size W w' := fun W => by rw [hvk]; exact roots_calls W
  have hspread : ∀ W, Calls Try.prog 34 #[.string s] W fun e w' => e = .returned vs ∧ Below W.heap.size W w' := fun W => by rw [hvs]; exact spread_calls s W hw
  replace hvk := Aside0.mk hvk
  replace hvs := Aside0.mk hvs
  replace hroots := Aside0.mk hroots
  replace hspread := Aside0.mk hspread
  go_wp2_with (first
    | (go_at_call 33; (with_reducible refine (hroots.out _).mono ?_); rintro e w4 ⟨rfl, hb4⟩; replace hb4 := Aside0.mk hb4)
    | (go_at_call 34; (with_reducible refine (hspread.out _).mono ?_); rintro e w7 ⟨rfl, hb7⟩; replace hb7 := Aside0.mk hb7)
    | ((with_reducible refine gate_dst (N := 13) rfl ?_); refine step_alloc 13 rfl rfl 56 rfl (zerosL 64) zero56 ?_; intro g3 hg3 w5 hr5 hb5 hs5)
    | ((with_reducible refine gate_store (t := 56) (p := 13) rfl ?_); refine step_store rfl rfl 56 (.tmp 13) (.tmp 34) rfl g3 (zerosL 64) kList rfl hvk.out hr5.out klen (by rw [size56, klen]) ?_; intro w6 hr6 hb6 ho6 hs6))
  have GG3 : Aside0 (g2 < g3) := ⟨by have := hg3.out; have := hb4.out.size; have := L2'.out; omega⟩
  have R1 := Aside0.mk ((((R1'.out.below hb4.out (by have := L2'.out; have := hgg.out; omega)).below hb5.out (by have := hg3.out; have := GG3.out; have := hgg.out; omega)).below hb6.out (by have := GG3.out; have := hgg.out; omega)).below hb7.out (by have := hs6.out; have := hs5.out; have := hg3.out; have := GG3.out; have := hgg.out; omega))
  have R2 := Aside0.mk ((((R2'.out.below hb4.out (by have := L2'.out; have := hgg.out; omega)).below hb5.out (by have := hg3.out; have := GG3.out; have := hgg.out; omega)).below hb6.out (by have := GG3.out; have := hgg.out; omega)).below hb7.out (by have := hs6.out; have := hs5.out; have := hg3.out; have := GG3.out; have := hgg.out; omega))
  have R3 := Aside0.mk (hr6.out.below hb7.out (by have := hs6.out; have := hs5.out; have := hg3.out; omega))
  have HB := Aside0.mk ((((HB'.out.trans (hb4.out.mono HB'.out.size)).trans (hb5.out.mono (HB'.out.trans (hb4.out.mono HB'.out.size)).size)).trans (hb6.out.mono (by have := GG3.out; have := hgg.out; have := G2.out; omega))).trans (hb7.out.mono (by have := hs6.out; have := hs5.out; have := hg3.out; have := GG3.out; have := hgg.out; have := G2.out; omega)))
  clear R1' R2' L2' HB' hb4 hb5 hb6 hb7 hr5 hr6 ho6 hs5 hs6 hg3
  go_loopg [5, 6, 7, 8, 9, 10, 11, 12, 37] 64 (fun kq v5 v6 v7 v8 v9 v10 v11 v12 v37 w' => ∃ (i : Nat) (y : V8), v5 = .int .u32 y.a ∧ v6 = .int .u32 y.b ∧ v7 = .int .u32 y.c ∧ v8 = .int .u32 y.d ∧ v9 = .int .u32 y.e ∧ v10 = .int .u32 y.f ∧ v11 = .int .u32 y.g ∧ v12 = .int .u32 y.z ∧ v37 = .int .i64 (i : Int) ∧ Aside0 (y = rollV h s i) ∧ Aside0 (kq + i = 64) ∧ Aside0 (URow w' g3 56 kList) ∧ Aside0 (URow w' g2 37 (zerosL 8)) ∧ Aside0 (URow w' g 37 h.list) ∧ Aside0 (Below w.heap.size w w'))
  case atStart => exact ⟨0, h, rfl, rfl, rfl, rfl, rfl, rfl, rfl, rfl, rfl, ⟨rfl⟩, ⟨rfl⟩, R3, R2, R1, HB⟩
  case round =>
    clear R1 R2 R3 HB
    obtain ⟨i, y, rfl, rfl, rfl, rfl, rfl, rfl, rfl, rfl, rfl, HY, HK, R3, R2, R1, HB⟩ := hrel
    cases gk with
    | zero =>
      have c0 : decide ((i : Int) < 64) = false := decide_eq_false (by have := HK.out; omega)
      obtain rfl : i = 64 := by have := HK.out; omega
      have e0 : wr.cell? ⟨g, 0, none⟩ = some (.int .u32 h.a) := R1.out.cell 0 (by simp [V8.list])
      have e1 : wr.cell? ⟨g, 1, none⟩ = some (.int .u32 h.b) := R1.out.cell 1 (by simp [V8.list])
      have e2 : wr.cell? ⟨g, 2, none⟩ = some (.int .u32 h.c) := R1.out.cell 2 (by simp [V8.list])
      have e3 : wr.cell? ⟨g, 3, none⟩ = some (.int .u32 h.d) := R1.out.cell 3 (by simp [V8.list])
      have e4 : wr.cell? ⟨g, 4, none⟩ = some (.int .u32 h.e) := R1.out.cell 4 (by simp [V8.list])
      have e5 : wr.cell? ⟨g, 5, none⟩ = some (.int .u32 h.f) := R1.out.cell 5 (by simp [V8.list])
      have e6 : wr.cell? ⟨g, 6, none⟩ = some (.int .u32 h.g) := R1.out.cell 6 (by simp [V8.list])
      have e7 : wr.cell? ⟨g, 7, none⟩ = some (.int .u32 h.z) := R1.out.cell 7 (by simp [V8.list])
      go_wp2_with (first
        | ((with_reducible refine gate_dst (N := 131) rfl ?_); refine step_build 131 rfl rfl 37 36 8 _ rfl (u32s (zerosL 8)) [_, _, _, _, _, _, _, _] zero37 Try.underlying37 size36 (fill8 _ _ _ _ _ _ _ _) ?_)
        | ((with_reducible refine gate_store (t := 37) (p := 4) rfl ?_); refine step_store rfl rfl 37 (.tmp 4) (.tmp 131) rfl g2 (zerosL 8) [_, _, _, _, _, _, _, _] rfl rfl R2.out rfl size37 ?_; intro w8 hr8 hb8 ho8 hs8))
      refine bodyPost_ret (results_cell_row rfl _ _ g2 37 _ (0, 0) _ rfl hr8.out Try.underlying37 rfl (by rw [size37, u32s_size]; rfl)) rfl ?_
      refine ⟨?_, HB.out.trans (hb8.out.mono (by have := hgg.out; have := G2.out; omega))⟩
      have hy : rolledV h s = addV h y := by rw [HY.out, rolledV]
      rw [hy]
      simp only [addV, V8.list]
    | succ k1 =>
      have c0 : decide ((i : Int) < 64) = true := decide_eq_true (by have := HK.out; omega)
      have hi : Aside0 (i < 64) := ⟨by have := HK.out; omega⟩
      have ek := R3.out.cell i (by rw [klen]; exact hi.out)
      obtain ⟨kx, hkx⟩ : ∃ x, kList.getD i 0 = x := ⟨_, rfl⟩
      rw [hkx] at ek
      replace hkx := Aside0.mk hkx
      obtain ⟨wx, hwx⟩ : ∃ x, (spreadL s 64).getD i 0 = x := ⟨_, rfl⟩
      replace hwx := Aside0.mk hwx
      have hx : 0 ≤ (i : Int) ∧ (i : Int) < 64 := ⟨by omega, by have := hi.out; omega⟩
      go_wp2_with ((with_reducible refine gate_dst (N := 40) rfl ?_); refine step_index 40 rfl rfl 56 36 64 (.tmp 36) (.tmp 37) rfl (spreadL s 64) i hvs.out rfl Try.underlying56 Try.underlying36 size36 hi.out (spreadL_length s 64) ?_; rw [hwx.out])
      go_quiet ((go_at_call 35; first | with_reducible exact turn6 _ _ _ | with_reducible exact turn11 _ _ _ | with_reducible exact turn25 _ _ _))
      have R1' := Aside0.mk (R1.out.drewN nq)
      have R2' := Aside0.mk (R2.out.drewN nq)
      have R3' := Aside0.mk (R3.out.drewN nq)
      have HB' := Aside0.mk (pw_below_drewN HB.out nq)
      clear ek R1 R2 R3 HB
      generalize wr.drewN nq = wq at *
      go_wp2_with (first
        | (go_at_call 35; (with_reducible refine (turnC2 _ _).mono ?_); rintro e w' ⟨rfl, ⟨nd1, rfl⟩⟩)
        | (go_at_call 35; (with_reducible refine (turnC13 _ _).mono ?_); rintro e w' ⟨rfl, ⟨nd2, rfl⟩⟩)
        | (go_at_call 35; (with_reducible refine (turnC22 _ _).mono ?_); rintro e w' ⟨rfl, ⟨nd3, rfl⟩⟩))
      go_roundg k1
      case measure => omega
      case rel =>
        refine ⟨i + 1, stepV kx wx y, rfl, rfl, rfl, rfl, rfl, rfl, rfl, rfl, rfl, ⟨?_⟩, ⟨by have := HK.out; omega⟩, ⟨R3'.out.drewN _⟩, ⟨R2'.out.drewN _⟩, ⟨R1'.out.drewN _⟩, ⟨pw_below_drewN HB'.out _⟩⟩
        rw [HY.out, ← hkx.out, ← hwx.out, rollV]
end Go.Proofs.Ytkejacgedipoeaa.P
