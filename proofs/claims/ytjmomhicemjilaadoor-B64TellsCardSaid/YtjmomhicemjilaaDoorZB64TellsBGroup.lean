/- b64.group: up to three bytes as signs; walked by hand. -/
import Derived.Test.YtjmomhicemjilaaDoorZB64TellsM0
import Derived.Test.YtjmomhicemjilaaDoorZB64TellsKRow
import Derived.Test.YtjmomhicemjilaaDoorZB64TellsBRow
import Derived.Laws.BitsLemmas
import Derived.Laws.BitsAllLaws
import Derived.Outline
namespace Go.Proofs.YtjmomhicemjilaaDoor.P
open Go.RowKit Go.Proofs.YtjmomhicemjilaaDoorW.PrintWords Go.Proofs.YtjmomhicemjilaaDoorW.PrintLast Go.Proofs.YtjmomhicemjilaaDoorW.PrintMore Go.Proofs.YtjmomhicemjilaaDoor.Pl
set_option linter.unusedVariables false
set_option linter.unusedSimpArgs false
def signsB : ByteArray := ⟨#[65, 66, 67, 68, 69, 70, 71, 72, 73, 74, 75, 76, 77, 78, 79, 80, 81, 82, 83, 84, 85, 86, 87, 88, 89, 90, 97, 98, 99, 100, 101, 102, 103, 104, 105, 106, 107, 108, 109, 110, 111, 112, 113, 114, 115, 116, 117, 118, 119, 120, 121, 122, 48, 49, 50, 51, 52, 53, 54, 55, 56, 57, 43, 47]⟩
/-- The sign of place i of a group. -/
def sgn (n : Int) (i : Nat) : Int := bt signsB (n / 2 ^ (18 - 6 * i) % 64)
theorem part_is (n : Int) (i : Nat) (h0 : 0 ≤ n) (h1 : n < 4294967296) (hi : i ≤ 3) : b64_part.f n (i : Int) = some (sgn n i) := by
  have e1 : wrap64 (6 * (i : Int)) = 6 * i := by unfold wrap64; omega
  have e2 : wrap64 (18 - 6 * (i : Int)) = ((18 - 6 * i : Nat) : Int) := by unfold wrap64; omega
  have hs : shr .u32 n ((18 - 6 * i : Nat) : Int) = n / 2 ^ (18 - 6 * i) := by
    unfold shr
    rw [Int.toNat_natCast, show IntKind.u32.bits = 32 from rfl, Nat.min_eq_left (by omega)]
  have hp : (0 : Int) < 2 ^ (18 - 6 * i) := Int.pow_pos (by decide)
  have hr0 : 0 ≤ n / 2 ^ (18 - 6 * i) := Int.ediv_nonneg h0 (Int.le_of_lt hp)
  have hr1 : n / 2 ^ (18 - 6 * i) < 4294967296 := Int.lt_of_le_of_lt (Int.ediv_le_self _ h0) h1
  have hm := bits_mask .u32 32 (by decide) (fun n h0 h1 => by rw [IntKind.wrap_u32]; omega) 6 (by decide) _ hr0 hr1
  rw [show ((2 : Int) ^ 6 - 1) = 63 from rfl, show ((2 : Int) ^ 6) = 64 from rfl] at hm
  unfold b64_part.f
  rw [e1, e2, if_pos (Int.natCast_nonneg _), hs, hm, if_pos (by omega), if_pos (by omega)]
  rfl
def padsL : Nat → List Int
  | 0 => [0, 0, 0, 0]
  | i + 1 => (padsL i).set i 61
theorem padsL_length (i : Nat) : (padsL i).length = 4 := by
  induction i with
  | zero => rfl
  | succ i ih => simp only [padsL, List.length_set, ih]
theorem zero52 : (Tryd.prog.info? 52).map (·.zero) = some (some (.agg (kints .u8 [0, 0, 0, 0]))) := by kernel_rfl
/-- A sum of parts that share no bit. -/
theorem or_low (x y : Int) (h0 : 0 ≤ x) (h1 : x < 256) (h2 : 0 ≤ y) (h3 : y < 4294967296) (h4 : y % 256 = 0) : Go.bits .or .u32 x y = x + y := by
  have hj := bits_join .u32 32 (by decide) (fun n h0 h1 => by rw [IntKind.wrap_u32]; omega) 8 y x h2 h4 h3 h0 h1 (by omega)
  rw [u32_or _ _ h0 (by omega) h2 h3, Nat.or_comm, ← u32_or _ _ h2 h3 h0 (by omega), hj]
  omega
theorem or_low16 (x y : Int) (h0 : 0 ≤ x) (h1 : x < 65536) (h2 : 0 ≤ y) (h3 : y < 4294967296) (h4 : y % 65536 = 0) : Go.bits .or .u32 x y = x + y := by
  have hj := bits_join .u32 32 (by decide) (fun n h0 h1 => by rw [IntKind.wrap_u32]; omega) 16 y x h2 h4 h3 h0 h1 (by omega)
  rw [u32_or _ _ h0 (by omega) h2 h3, Nat.or_comm, ← u32_or _ _ h2 h3 h0 (by omega), hj]
  omega
theorem or_zero (x : Int) (h0 : 0 ≤ x) (h3 : x < 4294967296) : Go.bits .or .u32 0 x = x := by
  rw [u32_or _ _ (by omega) (by omega) h0 h3, show (0 : Int).toNat = 0 from rfl, Nat.zero_or]
  omega
theorem part_calls (n : Int) (i : Nat) (h0 : 0 ≤ n) (h1 : n < 4294967296) (hi : i ≤ 3) (w : World) : Calls Tryd.prog 26 #[.int .u32 n, .int .i64 (i : Int)] w fun e w' => e = .returned (.int .u8 (sgn n i)) ∧ Drawn0 w w' := b64_part.calls n (i : Int) _ w (part_is n i h0 h1 hi)
theorem part0 (n : Int) (h0 : 0 ≤ n) (h1 : n < 4294967296) (w : World) : Calls Tryd.prog 26 #[.int .u32 n, .int .i64 0] w fun e w' => e = .returned (.int .u8 (sgn n 0)) ∧ Drawn0 w w' := part_calls n 0 h0 h1 (by omega) w
theorem part1 (n : Int) (h0 : 0 ≤ n) (h1 : n < 4294967296) (w : World) : Calls Tryd.prog 26 #[.int .u32 n, .int .i64 1] w fun e w' => e = .returned (.int .u8 (sgn n 1)) ∧ Drawn0 w w' := part_calls n 1 h0 h1 (by omega) w
theorem part2 (n : Int) (h0 : 0 ≤ n) (h1 : n < 4294967296) (w : World) : Calls Tryd.prog 26 #[.int .u32 n, .int .i64 2] w fun e w' => e = .returned (.int .u8 (sgn n 2)) ∧ Drawn0 w w' := part_calls n 2 h0 h1 (by omega) w
theorem part3 (n : Int) (h0 : 0 ≤ n) (h1 : n < 4294967296) (w : World) : Calls Tryd.prog 26 #[.int .u32 n, .int .i64 3] w fun e w' => e = .returned (.int .u8 (sgn n 3)) ∧ Drawn0 w w' := part_calls n 3 h0 h1 (by omega) w
theorem name_world {P : Program} {c : Code} {Q : Exit → Act → World → Prop} {a : Act} {W : World} (φ : World → Prop) (F : φ W) (h : ∀ W1, φ W1 → c.wp P Q a W1) : c.wp P Q a W := h W F
theorem KRow.bytes {w : World} {g t : Nat} {xs : List Int} (h : KRow .u8 w g t xs) (n : Nat) (hn : xs.length = n) (hm : n ≤ 9223372036854775807) : BRow w g n xs :=
  ⟨hn, hm, fun j hj => ⟨h.cell j (by omega), h.frozen j⟩⟩
set_option maxHeartbeats 8000000 in
set_option maxRecDepth 100000 in
theorem group_three (s : ByteArray) (w : World) (hs : s.size = 3) (x0 x1 x2 : Int) (e0 : bt s 0 = x0) (e1 : bt s 1 = x1) (e2 : bt s 2 = x2) :
    Calls Tryd.prog 18 #[.string s] w fun e w' => e = .returned (.string (strOfNums [sgn (x2 + x1 * 256 + x0 * 65536) 0, sgn (x2 + x1 * 256 + x0 * 65536) 1, sgn (x2 + x1 * 256) 2, sgn x2 3])) ∧ Below w.heap.size w w' := by
  have z3 : ((s.size : Int) == 3) = true := beq_iff_eq.mpr (by omega)
  have r0 := bt_range s 0
  have i0 : ∀ h : 0 < s.size, ((s[0]'h).toNat : Int) = bt s 0 := bt_at s 0
  rw [e0] at r0 i0
  have l0 : 0 < s.size := by omega
  have l0' : (0 : Int) < (s.size : Int) := by omega
  have m0 : x0 % 4294967296 = x0 := by omega
  have r1 := bt_range s 1
  have i1 : ∀ h : 1 < s.size, ((s[1]'h).toNat : Int) = bt s 1 := bt_at s 1
  rw [e1] at r1 i1
  have l1 : 1 < s.size := by omega
  have l1' : (1 : Int) < (s.size : Int) := by omega
  have m1 : x1 % 4294967296 = x1 := by omega
  have r2 := bt_range s 2
  have i2 : ∀ h : 2 < s.size, ((s[2]'h).toNat : Int) = bt s 2 := bt_at s 2
  rw [e2] at r2 i2
  have l2 : 2 < s.size := by omega
  have l2' : (2 : Int) < (s.size : Int) := by omega
  have m2 : x2 % 4294967296 = x2 := by omega
  clear hs e0 e1 e2
  have o1 := or_zero x2 r2.1 (by omega)
  have o2 := or_low x2 (x1 * 256) r2.1 (by omega) (by omega) (by omega) (by omega)
  have o3 := or_low16 (x2 + x1 * 256) (x0 * 65536) (by omega) (by omega) (by omega) (by omega) (by omega)
  have b3 : 0 ≤ x2 + x1 * 256 + x0 * 65536 ∧ x2 + x1 * 256 + x0 * 65536 < 4294967296 := by omega
  have b2 : 0 ≤ x2 + x1 * 256 ∧ x2 + x1 * 256 < 4294967296 := by omega
  obtain ⟨n3, h3⟩ : ∃ n, x2 + x1 * 256 + x0 * 65536 = n := ⟨_, rfl⟩
  rw [h3] at o3 b3
  have H3 := Aside0.mk h3
  clear h3
  obtain ⟨n2, h2⟩ : ∃ n, x2 + x1 * 256 = n := ⟨_, rfl⟩
  rw [h2] at o2 o3 b2
  have H2 := Aside0.mk h2
  clear h2
  have B3 := Aside0.mk b3
  clear b3
  have B2 := Aside0.mk b2
  clear b2
  go_enter Tryd.func18, Tryd.ntmps18
  go_wp2_with ((with_reducible refine gate_dst (N := 4) rfl ?_); refine step_alloc (k := .u8) 4 rfl rfl 52 rfl [0, 0, 0, 0] zero52 ?_; intro g hg w1 hr1 hb1 hs1)
  go_loopg [6] 4 (fun kq v6 w' => ∃ i : Nat, v6 = .int .i64 (i : Int) ∧ Aside0 (kq + i = 4) ∧ Aside0 (KRow .u8 w' g 52 (padsL i)) ∧ Aside0 (Below w.heap.size w w'))
  case atStart => exact ⟨0, rfl, ⟨rfl⟩, hr1, hb1⟩
  case round =>
    clear hr1 hb1 hs1
    obtain ⟨i, rfl, HK, R, HB⟩ := hrel
    cases gk with
    | zero =>
      have d0 : decide ((i : Int) < 4) = false := decide_eq_false (by have := HK.out; omega)
      obtain rfl : i = 4 := by have := HK.out; omega
      have c0 := R.out.cell 0 (by decide)
      have c1 := R.out.cell 1 (by decide)
      have c2 := R.out.cell 2 (by decide)
      have c3 := R.out.cell 3 (by decide)
      have f0 := R.out.frozen 0
      have f1 := R.out.frozen 1
      have f2 := R.out.frozen 2
      have f3 := R.out.frozen 3
      go_upto_region 17 with (first
        | (go_at_call 26; (with_reducible refine (part3 x2 r2.1 (by omega) _).mono ?_); rintro e w2 ⟨rfl, ⟨na, rfl⟩⟩)
        | (go_at_call 26; (with_reducible refine (part2 n2 B2.out.1 B2.out.2 _).mono ?_); rintro e w2 ⟨rfl, ⟨nb, rfl⟩⟩)
        | (go_at_call 26; (with_reducible refine (part1 n3 B3.out.1 B3.out.2 _).mono ?_); rintro e w2 ⟨rfl, ⟨nc, rfl⟩⟩)
        | (go_at_call 26; (with_reducible refine (part0 n3 B3.out.1 B3.out.2 _).mono ?_); rintro e w2 ⟨rfl, ⟨ne, rfl⟩⟩))
      refine name_world (fun W => KRow .u8 W g 52 [sgn n3 0, sgn n3 1, sgn n2 2, sgn x2 3] ∧ Below w.heap.size w W) ⟨(KRow.set (KRow.set (KRow.drewN (KRow.set (KRow.drewN (KRow.set (KRow.drewN R.out na) 3 (sgn x2 3)) nb) 2 (sgn n2 2)) (nc + ne)) 1 (sgn n3 1)) 0 (sgn n3 0)), (((pw_below_drewN ((pw_below_drewN ((pw_below_drewN HB.out na).setCell (by have := hg.out; simp; omega) _) nb).setCell (by have := hg.out; simp; omega) _) (nc + ne)).setCell (by have := hg.out; simp; omega) _).setCell (by have := hg.out; simp; omega) _)⟩ ?_
      clear c0 c1 c2 c3 f0 f1 f2 f3 R HB
      rintro W ⟨R, HB⟩
      have kc : ∀ (cap : Nat), (convert 30 9 (.slice (some ⟨g, 0, none⟩) 4 cap)).run Tryd.prog W = .ok (.string (strOfNums [sgn n3 0, sgn n3 1, sgn n2 2, sgn x2 3])) W := fun cap => (BRow.string (KRow.bytes R 4 rfl (by decide)) Tryd.underlying30 Tryd.underlying5 Tryd.underlying9 cap)
      replace R := Aside0.mk R
      replace HB := Aside0.mk HB
      go_wp2
      go_ret
      refine ⟨?_, HB.out⟩
      rw [H3.out, H2.out]
      all_goals rfl
    | succ k1 =>
      have d0 : decide ((i : Int) < 4) = true := decide_eq_true (by have := HK.out; omega)
      have hi : Aside0 (i < 4) := ⟨by have := HK.out; omega⟩
      have hx : 0 ≤ (i : Int) ∧ (i : Int) < 4 := ⟨by omega, by have := hi.out; omega⟩
      have e1 := R.out.cell i (by rw [padsL_length]; exact hi.out)
      have e2 := R.out.frozen i
      go_wp2
      go_roundg k1
      case measure => omega
      case rel =>
        refine ⟨i + 1, rfl, ⟨by have := HK.out; omega⟩, ⟨R.out.set i 61⟩, ⟨HB.out.setCell (by have := hg.out; simp; omega) _⟩⟩
set_option maxHeartbeats 8000000 in
set_option maxRecDepth 100000 in
theorem group_two (s : ByteArray) (w : World) (hs : s.size = 2) (x0 x1 : Int) (e0 : bt s 0 = x0) (e1 : bt s 1 = x1) :
    Calls Tryd.prog 18 #[.string s] w fun e w' => e = .returned (.string (strOfNums [sgn (x1 * 256 + x0 * 65536) 0, sgn (x1 * 256 + x0 * 65536) 1, sgn (x1 * 256) 2, 61])) ∧ Below w.heap.size w w' := by
  have z3 : ((s.size : Int) == 3) = false := beq_eq_false_iff_ne.mpr (by omega)
  have z2 : ((s.size : Int) == 2) = true := beq_iff_eq.mpr (by omega)
  have r0 := bt_range s 0
  have i0 : ∀ h : 0 < s.size, ((s[0]'h).toNat : Int) = bt s 0 := bt_at s 0
  rw [e0] at r0 i0
  have l0 : 0 < s.size := by omega
  have l0' : (0 : Int) < (s.size : Int) := by omega
  have m0 : x0 % 4294967296 = x0 := by omega
  have r1 := bt_range s 1
  have i1 : ∀ h : 1 < s.size, ((s[1]'h).toNat : Int) = bt s 1 := bt_at s 1
  rw [e1] at r1 i1
  have l1 : 1 < s.size := by omega
  have l1' : (1 : Int) < (s.size : Int) := by omega
  have m1 : x1 % 4294967296 = x1 := by omega
  clear hs e0 e1
  have o2 := or_zero (x1 * 256) (by omega) (by omega)
  have o3 := or_low16 (x1 * 256) (x0 * 65536) (by omega) (by omega) (by omega) (by omega) (by omega)
  have b3 : 0 ≤ x1 * 256 + x0 * 65536 ∧ x1 * 256 + x0 * 65536 < 4294967296 := by omega
  have b2 : 0 ≤ x1 * 256 ∧ x1 * 256 < 4294967296 := by omega
  obtain ⟨n3, h3⟩ : ∃ n, x1 * 256 + x0 * 65536 = n := ⟨_, rfl⟩
  rw [h3] at o3 b3
  have H3 := Aside0.mk h3
  clear h3
  have B3 := Aside0.mk b3
  clear b3
  have B2 := Aside0.mk b2
  clear b2
  go_enter Tryd.func18, Tryd.ntmps18
  go_wp2_with ((with_reducible refine gate_dst (N := 4) rfl ?_); refine step_alloc (k := .u8) 4 rfl rfl 52 rfl [0, 0, 0, 0] zero52 ?_; intro g hg w1 hr1 hb1 hs1)
  go_loopg [6] 4 (fun kq v6 w' => ∃ i : Nat, v6 = .int .i64 (i : Int) ∧ Aside0 (kq + i = 4) ∧ Aside0 (KRow .u8 w' g 52 (padsL i)) ∧ Aside0 (Below w.heap.size w w'))
  case atStart => exact ⟨0, rfl, ⟨rfl⟩, hr1, hb1⟩
  case round =>
    clear hr1 hb1 hs1
    obtain ⟨i, rfl, HK, R, HB⟩ := hrel
    cases gk with
    | zero =>
      have d0 : decide ((i : Int) < 4) = false := decide_eq_false (by have := HK.out; omega)
      obtain rfl : i = 4 := by have := HK.out; omega
      have c0 := R.out.cell 0 (by decide)
      have c1 := R.out.cell 1 (by decide)
      have c2 := R.out.cell 2 (by decide)
      have c3 := R.out.cell 3 (by decide)
      have f0 := R.out.frozen 0
      have f1 := R.out.frozen 1
      have f2 := R.out.frozen 2
      have f3 := R.out.frozen 3
      go_upto_region 17 with (first
        | (go_at_call 26; (with_reducible refine (part2 (x1 * 256) B2.out.1 B2.out.2 _).mono ?_); rintro e w2 ⟨rfl, ⟨nb, rfl⟩⟩)
        | (go_at_call 26; (with_reducible refine (part1 n3 B3.out.1 B3.out.2 _).mono ?_); rintro e w2 ⟨rfl, ⟨nc, rfl⟩⟩)
        | (go_at_call 26; (with_reducible refine (part0 n3 B3.out.1 B3.out.2 _).mono ?_); rintro e w2 ⟨rfl, ⟨ne, rfl⟩⟩))
      refine name_world (fun W => KRow .u8 W g 52 [sgn n3 0, sgn n3 1, sgn (x1 * 256) 2, 61] ∧ Below w.heap.size w W) ⟨(KRow.set (KRow.set (KRow.drewN (KRow.set (KRow.drewN R.out nb) 2 (sgn (x1 * 256) 2)) (nc + ne)) 1 (sgn n3 1)) 0 (sgn n3 0)), (((pw_below_drewN ((pw_below_drewN HB.out nb).setCell (by have := hg.out; simp; omega) _) (nc + ne)).setCell (by have := hg.out; simp; omega) _).setCell (by have := hg.out; simp; omega) _)⟩ ?_
      clear c0 c1 c2 c3 f0 f1 f2 f3 R HB
      rintro W ⟨R, HB⟩
      have kc : ∀ (cap : Nat), (convert 30 9 (.slice (some ⟨g, 0, none⟩) 4 cap)).run Tryd.prog W = .ok (.string (strOfNums [sgn n3 0, sgn n3 1, sgn (x1 * 256) 2, 61])) W := fun cap => (BRow.string (KRow.bytes R 4 rfl (by decide)) Tryd.underlying30 Tryd.underlying5 Tryd.underlying9 cap)
      replace R := Aside0.mk R
      replace HB := Aside0.mk HB
      go_wp2
      go_ret
      refine ⟨?_, HB.out⟩
      rw [H3.out]
      all_goals rfl
    | succ k1 =>
      have d0 : decide ((i : Int) < 4) = true := decide_eq_true (by have := HK.out; omega)
      have hi : Aside0 (i < 4) := ⟨by have := HK.out; omega⟩
      have hx : 0 ≤ (i : Int) ∧ (i : Int) < 4 := ⟨by omega, by have := hi.out; omega⟩
      have e1 := R.out.cell i (by rw [padsL_length]; exact hi.out)
      have e2 := R.out.frozen i
      go_wp2
      go_roundg k1
      case measure => omega
      case rel =>
        refine ⟨i + 1, rfl, ⟨by have := HK.out; omega⟩, ⟨R.out.set i 61⟩, ⟨HB.out.setCell (by have := hg.out; simp; omega) _⟩⟩
set_option maxHeartbeats 8000000 in
set_option maxRecDepth 100000 in
theorem group_one (s : ByteArray) (w : World) (hs : s.size = 1) (x0 : Int) (e0 : bt s 0 = x0) :
    Calls Tryd.prog 18 #[.string s] w fun e w' => e = .returned (.string (strOfNums [sgn (x0 * 65536) 0, sgn (x0 * 65536) 1, 61, 61])) ∧ Below w.heap.size w w' := by
  have z3 : ((s.size : Int) == 3) = false := beq_eq_false_iff_ne.mpr (by omega)
  have z2 : ((s.size : Int) == 2) = false := beq_eq_false_iff_ne.mpr (by omega)
  have r0 := bt_range s 0
  have i0 : ∀ h : 0 < s.size, ((s[0]'h).toNat : Int) = bt s 0 := bt_at s 0
  rw [e0] at r0 i0
  have l0 : 0 < s.size := by omega
  have l0' : (0 : Int) < (s.size : Int) := by omega
  have m0 : x0 % 4294967296 = x0 := by omega
  clear hs e0
  have o3 := or_zero (x0 * 65536) (by omega) (by omega)
  have b3 : 0 ≤ x0 * 65536 ∧ x0 * 65536 < 4294967296 := by omega
  have B3 := Aside0.mk b3
  clear b3
  go_enter Tryd.func18, Tryd.ntmps18
  go_wp2_with ((with_reducible refine gate_dst (N := 4) rfl ?_); refine step_alloc (k := .u8) 4 rfl rfl 52 rfl [0, 0, 0, 0] zero52 ?_; intro g hg w1 hr1 hb1 hs1)
  go_loopg [6] 4 (fun kq v6 w' => ∃ i : Nat, v6 = .int .i64 (i : Int) ∧ Aside0 (kq + i = 4) ∧ Aside0 (KRow .u8 w' g 52 (padsL i)) ∧ Aside0 (Below w.heap.size w w'))
  case atStart => exact ⟨0, rfl, ⟨rfl⟩, hr1, hb1⟩
  case round =>
    clear hr1 hb1 hs1
    obtain ⟨i, rfl, HK, R, HB⟩ := hrel
    cases gk with
    | zero =>
      have d0 : decide ((i : Int) < 4) = false := decide_eq_false (by have := HK.out; omega)
      obtain rfl : i = 4 := by have := HK.out; omega
      have c0 := R.out.cell 0 (by decide)
      have c1 := R.out.cell 1 (by decide)
      have c2 := R.out.cell 2 (by decide)
      have c3 := R.out.cell 3 (by decide)
      have f0 := R.out.frozen 0
      have f1 := R.out.frozen 1
      have f2 := R.out.frozen 2
      have f3 := R.out.frozen 3
      go_upto_region 17 with (first
        | (go_at_call 26; (with_reducible refine (part1 (x0 * 65536) B3.out.1 B3.out.2 _).mono ?_); rintro e w2 ⟨rfl, ⟨nc, rfl⟩⟩)
        | (go_at_call 26; (with_reducible refine (part0 (x0 * 65536) B3.out.1 B3.out.2 _).mono ?_); rintro e w2 ⟨rfl, ⟨ne, rfl⟩⟩))
      refine name_world (fun W => KRow .u8 W g 52 [sgn (x0 * 65536) 0, sgn (x0 * 65536) 1, 61, 61] ∧ Below w.heap.size w W) ⟨(KRow.set (KRow.set (KRow.drewN R.out (nc + ne)) 1 (sgn (x0 * 65536) 1)) 0 (sgn (x0 * 65536) 0)), (((pw_below_drewN HB.out (nc + ne)).setCell (by have := hg.out; simp; omega) _).setCell (by have := hg.out; simp; omega) _)⟩ ?_
      clear c0 c1 c2 c3 f0 f1 f2 f3 R HB
      rintro W ⟨R, HB⟩
      have kc : ∀ (cap : Nat), (convert 30 9 (.slice (some ⟨g, 0, none⟩) 4 cap)).run Tryd.prog W = .ok (.string (strOfNums [sgn (x0 * 65536) 0, sgn (x0 * 65536) 1, 61, 61])) W := fun cap => (BRow.string (KRow.bytes R 4 rfl (by decide)) Tryd.underlying30 Tryd.underlying5 Tryd.underlying9 cap)
      replace R := Aside0.mk R
      replace HB := Aside0.mk HB
      go_wp2
      go_ret
      refine ⟨?_, HB.out⟩
      rfl
    | succ k1 =>
      have d0 : decide ((i : Int) < 4) = true := decide_eq_true (by have := HK.out; omega)
      have hi : Aside0 (i < 4) := ⟨by have := HK.out; omega⟩
      have hx : 0 ≤ (i : Int) ∧ (i : Int) < 4 := ⟨by omega, by have := hi.out; omega⟩
      have e1 := R.out.cell i (by rw [padsL_length]; exact hi.out)
      have e2 := R.out.frozen i
      go_wp2
      go_roundg k1
      case measure => omega
      case rel =>
        refine ⟨i + 1, rfl, ⟨by have := HK.out; omega⟩, ⟨R.out.set i 61⟩, ⟨HB.out.setCell (by have := hg.out; simp; omega) _⟩⟩
end Go.Proofs.YtjmomhicemjilaaDoor.P
