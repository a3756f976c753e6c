/- RecSpoilt: the walk of the inputs that the statement keeps. -/
import Derived.Test.YtajgpmeilpjadaaZRecSpoiltRSpoilt
namespace Go.Proofs.Ytajgpmeilpjadaa.P
open Go.RowKit Go.Proofs.YtajgpmeilpjadaaW.PrintWords Go.Proofs.YtajgpmeilpjadaaW.PrintLast Go.Proofs.YtajgpmeilpjadaaW.PrintMore Go.Proofs.Ytajgpmeilpjadaa.Pl
attribute [local go_sem] max2_int min2_int max_two min_two max_three min_three max_four min_four
set_option linter.unusedVariables false
set_option linter.unusedSimpArgs false
/-- The head and the place, in blocks of their own. -/
def EnvS (w W : World) (a b c d e i x : Int) : Prop :=
  W.heap[w.heap.size]? = some (.cells #[.int .i64 a, .int .i64 b, .int .i64 c, .int .i64 d, .int .i64 e] 23 (0, 0)) ∧ W.heap[w.heap.size + 1]? = some (.cells #[.int .i64 i, .int .i64 x] 43 (0, 0)) ∧ Below w.heap.size w W ∧ w.heap.size + 2 ≤ W.heap.size
theorem EnvS.init (w : World) (a b c d e i x : Int) : EnvS w ((w.alloc (.cells #[.int .i64 a, .int .i64 b, .int .i64 c, .int .i64 d, .int .i64 e] 23)).alloc (.cells #[.int .i64 i, .int .i64 x] 43)) a b c d e i x := by
  refine ⟨blk_alloc (blk_new w _) _, ?_, ((Below.refl w.heap.size w).alloc (Nat.le_refl _) _).alloc (by simp) _, by simp⟩
  have := blk_new (w.alloc (.cells #[.int .i64 a, .int .i64 b, .int .i64 c, .int .i64 d, .int .i64 e] 23)) (.cells #[.int .i64 i, .int .i64 x] 43)
  rwa [show (w.alloc (.cells #[.int .i64 a, .int .i64 b, .int .i64 c, .int .i64 d, .int .i64 e] 23)).heap.size = w.heap.size + 1 by simp] at this
section
variable {w W W' : World} {a b c d e i x : Int}
theorem EnvS.below (h : EnvS w W a b c d e i x) (hb : Below W.heap.size W W') : EnvS w W' a b c d e i x :=
  ⟨blk_below h.1 hb, blk_below h.2.1 hb, h.2.2.1.trans (hb.mono (by have := h.2.2.2; omega)), Nat.le_trans h.2.2.2 hb.size⟩
theorem EnvS.drewN (h : EnvS w W a b c d e i x) (n : Nat) : EnvS w (W.drewN n) a b c d e i x := ⟨h.1, h.2.1, pw_below_drewN h.2.2.1 n, h.2.2.2⟩
theorem EnvS.set (h : EnvS w W a b c d e i x) {p : Addr} (hp : w.heap.size + 2 ≤ p.block) (u : Value) : EnvS w (W.setCell p u) a b c d e i x :=
  ⟨blk_far h.1 (by omega) u, blk_far h.2.1 (by omega) u, h.2.2.1.setCell (by omega) u, by simpa [World.setCell] using h.2.2.2⟩
theorem EnvS.place (h : EnvS w W a b c d e i x) : W.cell? ⟨w.heap.size + 1, 0, none⟩ = some (.int .i64 i) ∧ W.cell? ⟨w.heap.size + 1, 1, none⟩ = some (.int .i64 x) := ⟨blk_cell h.2.1 0, blk_cell h.2.1 1⟩
theorem EnvS.head (h : EnvS w W a b c d e i x) : W.cell? ⟨w.heap.size, 0, none⟩ = some (.int .i64 a) ∧ W.cell? ⟨w.heap.size, 1, none⟩ = some (.int .i64 b) ∧ W.cell? ⟨w.heap.size, 2, none⟩ = some (.int .i64 c) ∧ W.cell? ⟨w.heap.size, 3, none⟩ = some (.int .i64 d) ∧ W.cell? ⟨w.heap.size, 4, none⟩ = some (.int .i64 e) :=
  ⟨blk_cell h.1 0, blk_cell h.1 1, blk_cell h.1 2, blk_cell h.1 3, blk_cell h.1 4⟩
end
theorem R_own1 {W : World} {base : Nat} {ok : Nat → Prop} {v : Value} {l : List ByteArray} (h : Kd.string.R 9 W base ok v l) (hn : 0 < l.length) : ∃ g cap, v = .slice (some ⟨g, 0, none⟩) l.length cap ∧ base ≤ g ∧ g < W.heap.size := by
  obtain ⟨inner, ho⟩ := Kd.R_own h
  rcases ho.2 with ⟨_, hx⟩ | ⟨g, cap, cur, rfl, hg, hh, _⟩
  · have := ho.1
    rw [hx] at this
    have hz : Kd.string.sz = 1 := rfl
    rw [hz] at this
    simp at this
    omega
  · exact ⟨g, cap, rfl, hg, blk_lt hh⟩
set_option maxHeartbeats 8000000 in
set_option maxRecDepth 100000 in
/-- The walk in full: h is the head, s its text, y the byte that takes the place of one of s; l the payload's sectors, z the byte that takes the place of one of the first. -/
theorem spoilt_in (a b c d e : Int) (p : ByteArray) (i : Nat) (x1 : Int) (w : World) (k : Nat) (s : ByteArray) (hi : i < 32) (hx : 1 ≤ x1) (hx' : x1 ≤ 255) (hs : s.size = 32) (hp : p.size ≤ 200)
    (hT : Aside0 (rec_Head_Text.f k a b c d e = some (s, true))) (hl : Aside0 (armadalaw03_live.f k = some true))
    (y : Int) (hy : Aside0 (Go.bits .xor .u8 (bt s (i : Int)) x1 = y)) (r1 r2 r3 r4 r5 : Int) (has : Bool) (hR : Aside0 (rec_Read.f k (strOfNums ((bs s).set i y)) = some (r1, r2, r3, r4, r5, has)))
    (l : List ByteArray) (hC : Aside0 (rec_Cut.f k p = some l)) (hl0 : Aside0 (l = [] → p.toList = [])) (hl1 : Aside0 (0 < l.length → (rdOf ByteArray.empty l 0).size = 32)) (z : Int) (hz : Aside0 (Go.bits .xor .u8 (bt (rdOf ByteArray.empty l 0) (i : Int)) x1 = z))
    (jt : ByteArray) (jr : Bool) (hJ : Aside0 (rec_Join.f k (l.set 0 (strOfNums ((bs (rdOf ByteArray.empty l 0)).set i z))) (p.size : Int) = some (jt, jr))) (hjn : Aside0 (0 < l.length → jr = true → (jt.toList == p.toList) = false))
    (hne : Aside0 (has = true → (r1 == a && (r2 == b && (r3 == c && (r4 == d && (r5 == e))))) = false)) :
    Calls Try.prog 6 #[.agg #[.int .i64 a, .int .i64 b, .int .i64 c, .int .i64 d, .int .i64 e], .string p, .agg #[.int .i64 (i : Int), .int .i64 x1]] w fun e w' => e = .returned (.bool true) ∧ Below w.heap.size w w' := by
  have HB0 := Aside0.mk ((((Below.refl w.heap.size w).alloc (Nat.le_refl _) (.cells #[.int .i64 a, .int .i64 b, .int .i64 c, .int .i64 d, .int .i64 e] 23)).alloc (by simp) (.cells #[.int .i64 (i : Int), .int .i64 x1] 43)))
  have d0 : decide (200 < (p.size : Int)) = false := decide_eq_false (by omega)
  have d0' : decide (200 < p.size) = false := decide_eq_false (by omega)
  have d1 : decide ((i : Int) < 0) = false := decide_eq_false (by omega)
  have d2 : decide (31 < (i : Int)) = false := decide_eq_false (by omega)
  have d2' : decide (31 < i) = false := decide_eq_false (by omega)
  have d3 : decide (x1 < 1) = false := decide_eq_false (by omega)
  have d4 : decide (255 < x1) = false := decide_eq_false (by omega)
  have HI : Aside0 (i < 32) := ⟨hi⟩
  have HS : Aside0 (s.size = 32) := ⟨hs⟩
  have kb := fun W => print_bytes (P := Try.prog) 9 44 5 Try.underlying9 Try.underlying44 Try.underlying5 s W
  clear hs
  go_enter Try.func6, Try.ntmps6
  go_upto_region 4 with (first
    | (go_at_call 9; (with_reducible refine (rec_Head_Text.calls k a b c d e s true _ hT.out).mono ?_); rintro en w1 ⟨rfl, hb⟩; have hcf := bcell hb; replace hb := Aside0.mk hb))
  refine name_world (fun W => EnvS w W a b c d e (i : Int) x1) ((EnvS.init w a b c d e (i : Int) x1).below hb.out) ?_
  clear hb hcf HB0 d0 d0' d1 d2 d2' d3 d4
  rintro W1 E1
  have R1 := BRow.new W1 5 s (by have := HS.out; omega)
  have E2 := E1.below (bytes_below (Below.refl W1.heap.size W1) (Nat.le_refl _) 5 s)
  have G1 : Aside0 (w.heap.size + 2 ≤ W1.heap.size) := ⟨E1.2.2.2⟩
  replace E1 := Aside0.mk E1
  replace R1 := Aside0.mk R1
  replace E2 := Aside0.mk E2
  go_upto_region 5 with (fail)
  refine name_world (fun W => BRow W W1.heap.size s.size (bs s) ∧ EnvS w W a b c d e (i : Int) x1) ⟨R1.out, E2.out⟩ ?_
  clear R1 E2 E1
  rintro W2 ⟨R2, E2⟩
  have hlt : i < s.size := by rw [HS.out]; exact HI.out
  have e1 := (R2.2.2 i hlt).1
  have f1 := (R2.2.2 i hlt).2
  have hv : (bs s).getD i 0 = bt s (i : Int) := by rw [List.getD_eq_getElem?_getD, List.getElem?_eq_getElem (by rw [bs_length]; exact hlt), bt_bs s i hlt]; rfl
  rw [hv] at e1
  have p1 := E2.place.1
  have p2 := E2.place.2
  have hx8 : IntKind.u8.wrap x1 = x1 := by rw [IntKind.wrap_u8]; omega
  have hi0 : 0 ≤ (i : Int) ∧ (i : Int) < (s.size : Int) := ⟨by omega, by omega⟩
  replace R2 := Aside0.mk R2
  replace E2 := Aside0.mk E2
  clear hv
  refine Q.wp_quiet_tail 13 (by kernel_rfl) (by kernel_rfl) ?_
  simp only [List.take_succ_cons, List.take_zero, List.drop_succ_cons, List.drop_zero]
  repeat (quiet_step (fail))
  refine wpQuiet_nil ?_
  intro _ hw'
  obtain ⟨nq2, hw''⟩ := hw'
  subst hw''
  go_upto_region 6 with (fail)
  refine name_world (fun W => BRow W W1.heap.size s.size ((bs s).set i y) ∧ EnvS w W a b c d e (i : Int) x1) ⟨by rw [hy.out]; exact (R2.out.drewN nq2).set i y, (E2.out.drewN nq2).set (by exact G1.out) _⟩ ?_
  clear R2 E2 e1 f1 p1 p2 hx8 hi0 hlt kb
  clear W2 nq2
  rintro W2 ⟨R2, E2⟩
  have kc : ∀ (cap : Nat), (convert 44 9 (.slice (some ⟨W1.heap.size, 0, none⟩) s.size cap)).run Try.prog W2 = .ok (.string (strOfNums ((bs s).set i y))) W2 := fun cap => R2.string Try.underlying44 Try.underlying5 Try.underlying9 cap
  replace E2 := Aside0.mk E2
  clear R2
  generalize strOfNums ((bs s).set i y) = S1 at *
  go_upto_region 7 with (first
    | (go_at_call 11; (with_reducible refine (rec_Read.calls k S1 r1 r2 r3 r4 r5 has _ hR.out).mono ?_); rintro en w3 ⟨rfl, hb3⟩; have E3 := Aside0.mk (E2.out.below hb3); clear hb3))
  refine name_world (fun W => W.heap[w3.heap.size]? = some (.cells #[.int .i64 r1, .int .i64 r2, .int .i64 r3, .int .i64 r4, .int .i64 r5] 26 (0, 0)) ∧ EnvS w W a b c d e (i : Int) x1) ⟨blk_new w3 _, E3.out.below ((Below.refl w3.heap.size w3).alloc (Nat.le_refl _) _)⟩ ?_
  rintro W4 ⟨K4, E4⟩
  clear E3 kc E2
  have k0 : W4.cell? ⟨w3.heap.size, 0, none⟩ = some (.int .i64 r1) := blk_cell K4 0
  have k1 : W4.cell? ⟨w3.heap.size, 1, none⟩ = some (.int .i64 r2) := blk_cell K4 1
  have k2 : W4.cell? ⟨w3.heap.size, 2, none⟩ = some (.int .i64 r3) := blk_cell K4 2
  have k3 : W4.cell? ⟨w3.heap.size, 3, none⟩ = some (.int .i64 r4) := blk_cell K4 3
  have k4 : W4.cell? ⟨w3.heap.size, 4, none⟩ = some (.int .i64 r5) := blk_cell K4 4
  obtain ⟨h0, h1, h2, h3, h4⟩ := E4.head
  replace E4 := Aside0.mk E4
  clear K4
  obtain ⟨q, hq⟩ : ∃ q, (r1 == a && (r2 == b && (r3 == c && (r4 == d && (r5 == e))))) = q := ⟨_, rfl⟩
  rw [hq] at hne
  have ke : ∀ (n : Nat) (W : World), (Op.equalIn (n + 2) 23 (.agg #[.int .i64 r1, .int .i64 r2, .int .i64 r3, .int .i64 r4, .int .i64 r5]) (.agg #[.int .i64 a, .int .i64 b, .int .i64 c, .int .i64 d, .int .i64 e])).run Try.prog W = .ok q W := fun n W => by rw [← hq]; exact eqA23 n W _ _ _ _ _ _ _ _ _ _
  have hqf : Aside0 ((has && q) = false) := ⟨by cases has with | false => rfl | true => rw [hne.out rfl]; rfl⟩
  clear hq hne
  cases has with
  | false =>
    clear ke hqf
    go_upto_region 9 with (fail)
    clear k0 k1 k2 k3 k4 h0 h1 h2 h3 h4
    go_upto_region 10 with (first
      | (go_at_call 18; (with_reducible refine (rec_Cut.calls k p l _ hC.out).mono ?_); rintro en w6 ⟨v6, rfl, hR6, hb6⟩; have E6 := Aside0.mk (E4.out.below hb6); replace hR6 := Aside0.mk hR6; clear hb6))
    have HW4 : Aside0 (w.heap.size + 2 ≤ W4.heap.size) := ⟨E4.out.2.2.2⟩
    clear E4
    by_cases hn : 0 < l.length
    · obtain ⟨gl, cap, rfl, hgl, hgl2⟩ := R_own1 hR6.out hn
      have HG : Aside0 (gl < w6.heap.size) := ⟨hgl2⟩
      have HG2 : Aside0 (w.heap.size + 2 ≤ gl) := ⟨Nat.le_trans HW4.out hgl⟩
      clear hgl hgl2 HW4
      have n0 : ((l.length : Int) == 0) = false := beq_eq_false_iff_ne.mpr (by omega)
      have n1 : decide ((l.length : Int) = 0) = false := decide_eq_false (by omega)
      have n2 : decide (l.length = 0) = false := decide_eq_false (by omega)
      have HN : Aside0 (0 < l.length) := ⟨hn⟩
      have n3 : 0 ≤ (0 : Int) ∧ (0 : Int) < (l.length : Int) := ⟨by omega, by omega⟩
      have cl := (Kd.R_cell ByteArray.empty hR6.out 0 (by omega) (by omega)).1
      rw [show (0 : Int).toNat = 0 from rfl] at cl
      obtain ⟨t, ht⟩ : ∃ t, rdOf ByteArray.empty l 0 = t := ⟨_, rfl⟩
      rw [ht] at cl hl1 hz hJ
      clear ht
      have T32 : Aside0 (t.size = 32) := ⟨hl1.out hn⟩
      have m0 : ((t.size : Int) == 32) = true := beq_iff_eq.mpr (by have := T32.out; omega)
      have m1 : ((t.size : Int) != 32) = false := bne_eq_false_iff_eq.mpr (by have := T32.out; omega)
      have kb := fun W => print_bytes (P := Try.prog) 9 44 5 Try.underlying9 Try.underlying44 Try.underlying5 t W
      clear hl0 hl1
      go_upto_region 15 with (fail)
      have R1 := BRow.new w6 5 t (by have := T32.out; omega)
      refine name_world (fun W => BRow W w6.heap.size t.size (bs t) ∧ Below w6.heap.size w6 W) ⟨R1, bytes_below (Below.refl w6.heap.size w6) (Nat.le_refl _) 5 t⟩ ?_
      clear R1 kb cl m0 m1 n0 n1 n2
      rintro W7 ⟨R2, B7⟩
      have hlt : i < t.size := by rw [T32.out]; exact HI.out
      have e1 := (R2.2.2 i hlt).1
      have f1 := (R2.2.2 i hlt).2
      have hv : (bs t).getD i 0 = bt t (i : Int) := by rw [List.getD_eq_getElem?_getD, List.getElem?_eq_getElem (by rw [bs_length]; exact hlt), bt_bs t i hlt]; rfl
      rw [hv] at e1
      have p1 := (E6.out.below B7).place.1
      have p2 := (E6.out.below B7).place.2
      have hx8 : IntKind.u8.wrap x1 = x1 := by rw [IntKind.wrap_u8]; omega
      have hi0 : 0 ≤ (i : Int) ∧ (i : Int) < (t.size : Int) := ⟨by omega, by omega⟩
      replace R2 := Aside0.mk R2
      replace B7 := Aside0.mk B7
      clear hv
      refine Q.wp_quiet_tail 13 (by kernel_rfl) (by kernel_rfl) ?_
      simp only [List.take_succ_cons, List.take_zero, List.drop_succ_cons, List.drop_zero]
      repeat (quiet_step (fail))
      refine wpQuiet_nil ?_
      intro _ hw'
      obtain ⟨nq3, hw''⟩ := hw'
      subst hw''
      go_upto_region 16 with (fail)
      refine name_world (fun W => BRow W w6.heap.size t.size ((bs t).set i z) ∧ Below w6.heap.size w6 W) ⟨by rw [hz.out]; exact (R2.out.drewN nq3).set i z, (pw_below_drewN B7.out nq3).setCell (Nat.le_refl _) _⟩ ?_
      clear R2 B7 e1 f1 p1 p2 hx8 hi0 hlt
      clear W7 nq3
      rintro W7 ⟨R2, B7⟩
      have kc : ∀ (cap : Nat), (convert 44 9 (.slice (some ⟨w6.heap.size, 0, none⟩) t.size cap)).run Try.prog W7 = .ok (.string (strOfNums ((bs t).set i z))) W7 := fun cap => R2.string Try.underlying44 Try.underlying5 Try.underlying9 cap
      clear R2
      generalize strOfNums ((bs t).set i z) = S2 at *
      have hR7 := Aside0.mk (Kd.R_below hR6.out B7)
      have E7 := Aside0.mk (E6.out.below B7)
      clear B7 hR6 E6
      have c1 := Kd.R_cell ByteArray.empty hR7.out 0 (by omega) (by omega)
      rw [show (0 : Int).toNat = 0 from rfl] at c1
      obtain ⟨c1, c2⟩ := c1
      go_upto_region 17 with (fail)
      refine name_world (fun W => Kd.string.R 9 W W4.heap.size (fun _ => True) (.slice (some ⟨gl, 0, none⟩) l.length cap) (l.set 0 S2) ∧ EnvS w W a b c d e (i : Int) x1) ⟨(Kd.R_put hR7.out 0 S2).1, E7.out.set HG2.out _⟩ ?_
      clear hR7 E7 c1 c2 kc W7
      rintro W8 ⟨hR8, E8⟩
      have kj : Aside0 (Calls Try.prog 15 #[.slice (some ⟨gl, 0, none⟩) l.length cap, .int .i64 (p.size : Int)] W8 fun e w' => e = .returned (.tuple #[.string jt, .bool jr]) ∧ Below W8.heap.size W8 w') := ⟨by
        obtain ⟨j1, j2, j3⟩ := Kd.R_reads' hR8
        have := rec_Join.calls k (some ⟨gl, 0, none⟩) cap (l.set 0 S2) (p.size : Int) jt jr W8 j3 (by omega) hJ.out
        rwa [List.length_set] at this⟩
      clear hR8 hJ
      replace E8 := Aside0.mk E8
      cases jr with
      | false =>
        clear hjn
        go_wp2_with (first
          | (go_at_call 15; (with_reducible refine kj.out.mono ?_); rintro en w9 ⟨rfl, hb9⟩; have E9 := Aside0.mk (E8.out.below hb9); clear hb9)
          | (go_at_call 8; (with_reducible refine (armadalaw03_live.calls k true _ hl.out).mono ?_); rintro en w10 ⟨rfl, hb10⟩))
        go_ret
        exact ⟨rfl, (E9.out.below hb10).2.2.1⟩
      | true =>
        have j1 := hjn.out HN.out rfl
        have j2 : (jt.toList != p.toList) = true := by rw [bne, j1]; rfl
        clear hjn
        go_wp2_with (first
          | (go_at_call 15; (with_reducible refine kj.out.mono ?_); rintro en w9 ⟨rfl, hb9⟩; have E9 := Aside0.mk (E8.out.below hb9); clear hb9)
          | (go_at_call 8; (with_reducible refine (armadalaw03_live.calls k true _ hl.out).mono ?_); rintro en w10 ⟨rfl, hb10⟩))
        go_ret
        exact ⟨rfl, (E9.out.below hb10).2.2.1⟩
    · have hl : l = [] := by
        cases l with
        | nil => rfl
        | cons _ _ => simp at hn
      subst hl
      clear hn
      have hpp : p.toList = [] := hl0.out rfl
      have hp1 : (p.toList == ([] : List UInt8)) = true := by rw [hpp]; rfl
      have hp2 : p.toList.isEmpty = true := by rw [hpp]; rfl
      obtain ⟨A6, c6, rfl⟩ := Kd.R_slice hR6.out
      clear hpp hl0
      go_wp2_with (first
        | (go_at_call 8; (with_reducible refine (armadalaw03_live.calls k true _ hl.out).mono ?_); rintro en w8 ⟨rfl, hb8⟩))
      go_ret
      exact ⟨rfl, (E6.out.below hb8).2.2.1⟩
  | true =>
    have hqq : q = false := by simpa using hqf.out
    subst hqq
    go_upto_region 9 with (fail)
    clear k0 k1 k2 k3 k4 h0 h1 h2 h3 h4
    go_upto_region 10 with (first
      | (go_at_call 18; (with_reducible refine (rec_Cut.calls k p l _ hC.out).mono ?_); rintro en w6 ⟨v6, rfl, hR6, hb6⟩; have E6 := Aside0.mk (E4.out.below hb6); replace hR6 := Aside0.mk hR6; clear hb6))
    have HW4 : Aside0 (w.heap.size + 2 ≤ W4.heap.size) := ⟨E4.out.2.2.2⟩
    clear E4
    by_cases hn : 0 < l.length
    · obtain ⟨gl, cap, rfl, hgl, hgl2⟩ := R_own1 hR6.out hn
      have HG : Aside0 (gl < w6.heap.size) := ⟨hgl2⟩
      have HG2 : Aside0 (w.heap.size + 2 ≤ gl) := ⟨Nat.le_trans HW4.out hgl⟩
      clear hgl hgl2 HW4
      have n0 : ((l.length : Int) == 0) = false := beq_eq_false_iff_ne.mpr (by omega)
      have n1 : decide ((l.length : Int) = 0) = false := decide_eq_false (by omega)
      have n2 : decide (l.length = 0) = false := decide_eq_false (by omega)
      have HN : Aside0 (0 < l.length) := ⟨hn⟩
      have n3 : 0 ≤ (0 : Int) ∧ (0 : Int) < (l.length : Int) := ⟨by omega, by omega⟩
      have cl := (Kd.R_cell ByteArray.empty hR6.out 0 (by omega) (by omega)).1
      rw [show (0 : Int).toNat = 0 from rfl] at cl
      obtain ⟨t, ht⟩ : ∃ t, rdOf ByteArray.empty l 0 = t := ⟨_, rfl⟩
      rw [ht] at cl hl1 hz hJ
      clear ht
      have T32 : Aside0 (t.size = 32) := ⟨hl1.out hn⟩
      have m0 : ((t.size : Int) == 32) = true := beq_iff_eq.mpr (by have := T32.out; omega)
      have m1 : ((t.size : Int) != 32) = false := bne_eq_false_iff_eq.mpr (by have := T32.out; omega)
      have kb := fun W => print_bytes (P := Try.prog) 9 44 5 Try.underlying9 Try.underlying44 Try.underlying5 t W
      clear hl0 hl1
      go_upto_region 15 with (fail)
      have R1 := BRow.new w6 5 t (by have := T32.out; omega)
      refine name_world (fun W => BRow W w6.heap.size t.size (bs t) ∧ Below w6.heap.size w6 W) ⟨R1, bytes_below (Below.refl w6.heap.size w6) (Nat.le_refl _) 5 t⟩ ?_
      clear R1 kb cl m0 m1 n0 n1 n2
      rintro W7 ⟨R2, B7⟩
      have hlt : i < t.size := by rw [T32.out]; exact HI.out
      have e1 := (R2.2.2 i hlt).1
      have f1 := (R2.2.2 i hlt).2
      have hv : (bs t).getD i 0 = bt t (i : Int) := by rw [List.getD_eq_getElem?_getD, List.getElem?_eq_getElem (by rw [bs_length]; exact hlt), bt_bs t i hlt]; rfl
      rw [hv] at e1
      have p1 := (E6.out.below B7).place.1
      have p2 := (E6.out.below B7).place.2
      have hx8 : IntKind.u8.wrap x1 = x1 := by rw [IntKind.wrap_u8]; omega
      have hi0 : 0 ≤ (i : Int) ∧ (i : Int) < (t.size : Int) := ⟨by omega, by omega⟩
      replace R2 := Aside0.mk R2
      replace B7 := Aside0.mk B7
      clear hv
      refine Q.wp_quiet_tail 13 (by kernel_rfl) (by kernel_rfl) ?_
      simp only [List.take_succ_cons, List.take_zero, List.drop_succ_cons, List.drop_zero]
      repeat (quiet_step (fail))
      refine wpQuiet_nil ?_
      intro _ hw'
      obtain ⟨nq3, hw''⟩ := hw'
      subst hw''
      go_upto_region 16 with (fail)
      refine name_world (fun W => BRow W w6.heap.size t.size ((bs t).set i z) ∧ Below w6.heap.size w6 W) ⟨by rw [hz.out]; exact (R2.out.drewN nq3).set i z, (pw_below_drewN B7.out nq3).setCell (Nat.le_refl _) _⟩ ?_
      clear R2 B7 e1 f1 p1 p2 hx8 hi0 hlt
      clear W7 nq3
      rintro W7 ⟨R2, B7⟩
      have kc : ∀ (cap : Nat), (convert 44 9 (.slice (some ⟨w6.heap.size, 0, none⟩) t.size cap)).run Try.prog W7 = .ok (.string (strOfNums ((bs t).set i z))) W7 := fun cap => R2.string Try.underlying44 Try.underlying5 Try.underlying9 cap
      clear R2
      generalize strOfNums ((bs t).set i z) = S2 at *
      have hR7 := Aside0.mk (Kd.R_below hR6.out B7)
      have E7 := Aside0.mk (E6.out.below B7)
      clear B7 hR6 E6
      have c1 := Kd.R_cell ByteArray.empty hR7.out 0 (by omega) (by omega)
      rw [show (0 : Int).toNat = 0 from rfl] at c1
      obtain ⟨c1, c2⟩ := c1
      go_upto_region 17 with (fail)
      refine name_world (fun W => Kd.string.R 9 W W4.heap.size (fun _ => True) (.slice (some ⟨gl, 0, none⟩) l.length cap) (l.set 0 S2) ∧ EnvS w W a b c d e (i : Int) x1) ⟨(Kd.R_put hR7.out 0 S2).1, E7.out.set HG2.out _⟩ ?_
      clear hR7 E7 c1 c2 kc W7
      rintro W8 ⟨hR8, E8⟩
      have kj : Aside0 (Calls Try.prog 15 #[.slice (some ⟨gl, 0, none⟩) l.length cap, .int .i64 (p.size : Int)] W8 fun e w' => e = .returned (.tuple #[.string jt, .bool jr]) ∧ Below W8.heap.size W8 w') := ⟨by
        obtain ⟨j1, j2, j3⟩ := Kd.R_reads' hR8
        have := rec_Join.calls k (some ⟨gl, 0, none⟩) cap (l.set 0 S2) (p.size : Int) jt jr W8 j3 (by omega) hJ.out
        rwa [List.length_set] at this⟩
      clear hR8 hJ
      replace E8 := Aside0.mk E8
      cases jr with
      | false =>
        clear hjn
        go_wp2_with (first
          | (go_at_call 15; (with_reducible refine kj.out.mono ?_); rintro en w9 ⟨rfl, hb9⟩; have E9 := Aside0.mk (E8.out.below hb9); clear hb9)
          | (go_at_call 8; (with_reducible refine (armadalaw03_live.calls k true _ hl.out).mono ?_); rintro en w10 ⟨rfl, hb10⟩))
        go_ret
        exact ⟨rfl, (E9.out.below hb10).2.2.1⟩
      | true =>
        have j1 := hjn.out HN.out rfl
        have j2 : (jt.toList != p.toList) = true := by rw [bne, j1]; rfl
        clear hjn
        go_wp2_with (first
          | (go_at_call 15; (with_reducible refine kj.out.mono ?_); rintro en w9 ⟨rfl, hb9⟩; have E9 := Aside0.mk (E8.out.below hb9); clear hb9)
          | (go_at_call 8; (with_reducible refine (armadalaw03_live.calls k true _ hl.out).mono ?_); rintro en w10 ⟨rfl, hb10⟩))
        go_ret
        exact ⟨rfl, (E9.out.below hb10).2.2.1⟩
    · have hl : l = [] := by
        cases l with
        | nil => rfl
        | cons _ _ => simp at hn
      subst hl
      clear hn
      have hpp : p.toList = [] := hl0.out rfl
      have hp1 : (p.toList == ([] : List UInt8)) = true := by rw [hpp]; rfl
      have hp2 : p.toList.isEmpty = true := by rw [hpp]; rfl
      obtain ⟨A6, c6, rfl⟩ := Kd.R_slice hR6.out
      clear hpp hl0
      go_wp2_with (first
        | (go_at_call 8; (with_reducible refine (armadalaw03_live.calls k true _ hl.out).mono ?_); rintro en w8 ⟨rfl, hb8⟩))
      go_ret
      exact ⟨rfl, (E6.out.below hb8).2.2.1⟩
end Go.Proofs.Ytajgpmeilpjadaa.P
