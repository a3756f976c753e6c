/- lex: LexBlanks, walked by hand. -/
import Derived.Test.YtonjofjdmlblfaaDoorZBM3
import Derived.Test.YtonjofjdmlblfaaDoorZBXOneW
import Derived.Test.YtonjofjdmlblfaaDoorZBXLive
import Derived.Test.YtonjofjdmlblfaaDoorZBBRow
import Derived.Deep.LoopGhost
import Derived.Outline
namespace Go.Proofs.YtonjofjdmlblfaaDoor.P
open Go.RowKit Go.Proofs.YtonjofjdmlblfaaDoorW.PrintWords Go.Proofs.YtonjofjdmlblfaaDoorW.PrintLast Go.Proofs.YtonjofjdmlblfaaDoorW.PrintMore Go.Proofs.YtonjofjdmlblfaaDoor.Pl
attribute [local go_sem] max2_int min2_int max_two min_two max_three min_three max_four min_four
set_option linter.unusedVariables false
set_option linter.unusedSimpArgs false
def ut (c : Int) : Int := if c = 32 then 9 else c
def utx (s : ByteArray) (i : Nat) : List Int := ((bs s).take i).map ut ++ (bs s).drop i
theorem utx_get (s : ByteArray) (i : Nat) (h : i < s.size) : (utx s i).getD i 0 = bt s (i : Int) := by
  have hl := bs_length s
  unfold utx
  rw [List.getD_eq_getElem?_getD, List.getElem?_append_right (by rw [List.length_map, List.length_take]; omega), List.length_map, List.length_take, show i - min i (bs s).length = 0 by omega, bs_drop s i h]; rfl
theorem utx_step (s : ByteArray) (i : Nat) (h : i < s.size) : utx s (i + 1) = ((bs s).take i).map ut ++ ut (bt s (i : Int)) :: (bs s).drop (i + 1) := by
  have hl := bs_length s
  unfold utx
  rw [List.take_succ_eq_append_getElem (by omega), List.map_append, List.append_assoc, ← bt_bs s i h]; rfl
theorem utx_same (s : ByteArray) (i : Nat) (h : i < s.size) (hc : bt s (i : Int) ≠ 32) : utx s (i + 1) = utx s i := by
  rw [utx_step s i h, ut, if_neg hc, ← bs_drop s i h]; rfl
theorem utx_set (s : ByteArray) (i : Nat) (h : i < s.size) (hc : bt s (i : Int) = 32) : utx s (i + 1) = (utx s i).set i 9 := by
  have hl := bs_length s
  rw [utx_step s i h, ut, if_pos hc, utx, List.set_append_right _ _ (by rw [List.length_map, List.length_take]; omega), List.length_map, List.length_take, show i - min i (bs s).length = 0 by omega, bs_drop s i h]; rfl
theorem utx_zero (s : ByteArray) : utx s 0 = bs s := by simp [utx]
theorem utx_end (s : ByteArray) : utx s s.size = (bs s).map ut := by
  have hl := bs_length s
  unfold utx
  rw [List.take_of_length_le (by omega), List.drop_of_length_le (by omega), List.append_nil]
theorem ut_range (s : ByteArray) : ∀ c ∈ (bs s).map ut, 0 ≤ c ∧ c ≤ 255 := by
  intro c hc
  obtain ⟨x, hx, rfl⟩ := List.mem_map.1 hc
  have := bs_range s x hx
  unfold ut
  split <;> omega
theorem tl_inj {a b : ByteArray} (h : a.data.toList = b.data.toList) : a = b := by
  obtain ⟨⟨a⟩⟩ := a
  obtain ⟨⟨b⟩⟩ := b
  simp at h; rw [h]
/-- A line in a block of its own. -/
def EnvL (w W : World) (g : Nat) (A : Option Addr) (c : Nat) (ws : List S47) : Prop :=
  Kd.R k47 47 W w.heap.size (fun _ => True) (.slice A ws.length c) ws ∧ W.heap[g]? = some (.cells #[.slice A ws.length c, .string ⟨#[]⟩] 25 (0, 0)) ∧ w.heap.size ≤ g ∧ Below w.heap.size w W
theorem EnvL.below {w W W' : World} {g : Nat} {A : Option Addr} {c : Nat} {ws : List S47} (h : EnvL w W g A c ws) (hb : Below W.heap.size W W') : EnvL w W' g A c ws :=
  ⟨Kd.R_below h.1 hb, blk_below h.2.1 hb, h.2.2.1, below_step h.2.2.2 hb⟩
theorem EnvL.new {w W : World} {A : Option Addr} {c : Nat} {ws : List S47} (hr : Kd.R k47 47 W w.heap.size (fun _ => True) (.slice A ws.length c) ws) (hb : Below w.heap.size w W) :
    EnvL w (W.alloc (.cells #[.slice A ws.length c, .string ⟨#[]⟩] 25 (0, 0))) W.heap.size A c ws := by
  have hn := (Below.refl W.heap.size W).alloc (Nat.le_refl _) (.cells #[.slice A ws.length c, .string ⟨#[]⟩] 25 (0, 0))
  exact ⟨Kd.R_below hr hn, blk_new W _, hb.size, below_step hb hn⟩
theorem EnvL.cells {w W : World} {g : Nat} {A : Option Addr} {c : Nat} {ws : List S47} (h : EnvL w W g A c ws) : W.cell? ⟨g, 0, none⟩ = some (.slice A ws.length c) ∧ W.cell? ⟨g, 1, none⟩ = some (.string ⟨#[]⟩) := ⟨blk_cell h.2.1 0, blk_cell h.2.1 1⟩
theorem EnvL.row {w W : World} {g : Nat} {A : Option Addr} {c : Nat} {ws : List S47} (h : EnvL w W g A c ws) : Kd.C k47 W A ws.length ws := (Kd.R_reads' h.1).2.2
set_option maxHeartbeats 8000000 in
set_option maxRecDepth 100000 in
theorem blanks_main (k : Nat) (s s2 : ByteArray) (w : World) (hs : s.size ≤ 2000) (ws ws2 : List S47) (h1 : lex_One.f s = some (ws, ⟨#[]⟩, 0)) (hs2 : s2 = (⟨#[32, 32]⟩ : ByteArray) ++ strOfNums ((bs s).map ut) ++ ⟨#[9, 32]⟩) (h2 : lex_One.f s2 = some (ws2, ⟨#[]⟩, 0))
    (hl : ws2.length = ws.length) (hw : ∀ i : Nat, i < ws.length → (rd_T47 ws2 (i : Int)).f0.toList = (rd_T47 ws (i : Int)).f0.toList ∧ (rd_T47 ws2 (i : Int)).f1 = (rd_T47 ws (i : Int)).f1 + 2 ∧ 0 ≤ (rd_T47 ws (i : Int)).f1 ∧ (rd_T47 ws (i : Int)).f1 ≤ 4000) (hk : armadalaw09_live.f k = some true) :
    Calls Tryd.prog 6 #[.string s] w fun e w' => e = .returned (.bool true) ∧ Below w.heap.size w w' := by
  have HS := Aside0.mk hs
  have H1 := Aside0.mk h1
  have HS2 := Aside0.mk hs2
  have H2 := Aside0.mk h2
  have HL := Aside0.mk hl
  have HW := Aside0.mk hw
  have HK := Aside0.mk hk
  have d0 : decide (2000 < (s.size : Int)) = false := decide_eq_false (by omega)
  have d1 : decide (2000 < s.size) = false := decide_eq_false (by omega)
  have HB0 := Aside0.mk (Below.refl w.heap.size w)
  clear hs h1 hs2 h2 hl hw hk
  go_enter Tryd.func6, Tryd.ntmps6
  go_upto_region 4 with (first
    | (go_at_call 9; (with_reducible refine (lex_One.calls s ws ⟨#[]⟩ 0 _ H1.out).mono ?_); rintro e w2 ⟨v0, rfl, hr, hb⟩; obtain ⟨A1, c1, e1⟩ := Kd.R_slice hr; subst e1; have E1 := Aside0.mk (EnvL.new hr hb); clear hr hb))
  refine name_world (fun W => EnvL w W w2.heap.size A1 c1 ws) E1.out ?_
  clear E1
  generalize w2.heap.size = g1
  clear w2
  rintro W1 E1
  obtain ⟨k0, k1⟩ := E1.cells
  replace E1 := Aside0.mk E1
  have kb := fun W => print_bytes (P := Tryd.prog) 9 49 5 Tryd.underlying9 Tryd.underlying49 Tryd.underlying5 s W
  have R1 := Aside0.mk (BRow.new W1 5 s (by have := HS.out; omega))
  have B1 := Aside0.mk (bytes_below (Below.refl W1.heap.size W1) (Nat.le_refl _) 5 s)
  clear HB0 d0 d1
  go_wp2
  clear kb
  go_loopg [6] s.size (fun kq v6 w' => ∃ i : Nat, v6 = .int .i64 (i : Int) ∧ Aside0 (kq + i = s.size) ∧ Aside0 (BRow w' W1.heap.size s.size (utx s i)) ∧ Aside0 (Below W1.heap.size W1 w'))
  case atStart => exact ⟨0, rfl, ⟨by omega⟩, ⟨by rw [utx_zero]; exact R1.out⟩, B1⟩
  case round =>
    clear R1 B1 k0 k1
    obtain ⟨i, rfl, HI, R1, B1⟩ := hrel
    cases gk with
    | succ k1 =>
      have hi : i < s.size := by have := HI.out; omega
      have hi0 : (0 : Int) ≤ (i : Int) := by omega
      have hi1 : (i : Int) < (s.size : Int) := by omega
      have d0 : decide ((i : Int) < (s.size : Int)) = true := decide_eq_true (by omega)
      have hw1 : IntKind.i64.wrap ((i : Int) + 1) = (i : Int) + 1 := by rw [IntKind.wrap_i64]; have := HS.out; omega
      have hc := (R1.out.2.2 i hi).1
      have hf := (R1.out.2.2 i hi).2
      rw [utx_get s i hi] at hc
      by_cases c : bt s (i : Int) = 32
      · have c0 : (bt s (i : Int) == 32) = true := beq_iff_eq.2 c
        replace c := Aside0.mk c
        go_wp2
        go_roundg k1
        case measure => omega
        case rel => exact ⟨i + 1, by simp, ⟨by have := HI.out; omega⟩, ⟨by rw [utx_set s i hi c.out]; exact R1.out.set i 9⟩, ⟨B1.out.setCell (Nat.le_refl _) _⟩⟩
      · have c0 : (bt s (i : Int) == 32) = false := beq_eq_false_iff_ne.2 c
        replace c := Aside0.mk c
        go_wp2
        go_roundg k1
        case measure => omega
        case rel => exact ⟨i + 1, by simp, ⟨by have := HI.out; omega⟩, ⟨by rw [utx_same s i hi c.out]; exact R1.out⟩, B1⟩
    | zero =>
      obtain rfl : i = s.size := by have := HI.out; omega
      have d0 : decide ((s.size : Int) < (s.size : Int)) = false := decide_eq_false (by omega)
      have kc : ∀ (cap : Nat), (convert 49 9 (.slice (some ⟨W1.heap.size, 0, none⟩) s.size cap)).run Tryd.prog wr = .ok (.string (strOfNums ((bs s).map ut))) wr := fun cap => by
        have := R1.out
        rw [utx_end] at this
        exact this.string Tryd.underlying49 Tryd.underlying5 Tryd.underlying9 cap
      have E2 := Aside0.mk (E1.out.below B1.out)
      clear E1 B1 R1
      have HZ : Aside0 ((strOfNums ((bs s).map ut)).size = s.size) := ⟨by rw [← bs_length (strOfNums _), bs_strOfNums _ (ut_range s), List.length_map, bs_length]⟩
      have HX : Aside0 (lex_One.f ((⟨#[32, 32]⟩ : ByteArray) ++ strOfNums ((bs s).map ut) ++ ⟨#[9, 32]⟩) = some (ws2, ⟨#[]⟩, 0)) := ⟨by rw [← HS2.out]; exact H2.out⟩
      clear H2 HS2
      generalize strOfNums ((bs s).map ut) = S1 at *
      have z1 : 2 + S1.size ≤ 9223372036854775807 := by have := HZ.out; have := HS.out; omega
      have z2 : ((⟨#[32, 32]⟩ : ByteArray) ++ S1).size + 2 ≤ 9223372036854775807 := by rw [ByteArray.size_append, show (⟨#[32, 32]⟩ : ByteArray).size = 2 from rfl]; have := HZ.out; have := HS.out; omega
      have z3 : 2 + S1.size + 2 ≤ 9223372036854775807 := by have := HZ.out; have := HS.out; omega
      go_upto_region 13 with (first
        | (go_at_call 9; (with_reducible refine (lex_One.calls _ ws2 ⟨#[]⟩ 0 _ HX.out).mono ?_); rintro e w2 ⟨v0, rfl, hr, hb⟩; obtain ⟨A2, c2, e2⟩ := Kd.R_slice hr; subst e2; have E3 := Aside0.mk (EnvL.new (Kd.R_lower hr (below_size E2.out.2.2.2)) (below_step E2.out.2.2.2 hb)); have E4 := Aside0.mk (E2.out.below (hb.alloc hb.size (.cells #[.slice A2 ws2.length c2, .string ⟨#[]⟩] 25 (0, 0)))); clear hr hb))
      refine name_world (fun W => EnvL w W w2.heap.size A2 c2 ws2 ∧ EnvL w W g1 A1 c1 ws) ⟨E3.out, E4.out⟩ ?_
      clear E3 E4 E2 kc d0 z1 z2 z3 HZ HX
      generalize w2.heap.size = g2
      clear w2
      rintro W3 ⟨E3, E4⟩
      obtain ⟨k0, k1⟩ := E3.cells
      obtain ⟨m0, m1⟩ := E4.cells
      rw [HL.out] at k0
      have l0 : Aside0 (Value.slice A2 ws2.length c2 = .slice A2 ws.length c2) := ⟨by rw [HL.out]⟩
      replace E3 := Aside0.mk E3
      replace E4 := Aside0.mk E4
      go_wp2
      go_loopg [9] ws.length (fun kq v9 w' => ∃ i : Nat, v9 = .int .i64 (i : Int) ∧ Aside0 (kq + i = ws.length) ∧ Aside0 (EnvL w w' g2 A2 c2 ws2 ∧ EnvL w w' g1 A1 c1 ws))
      case atStart => exact ⟨0, rfl, ⟨by omega⟩, ⟨E3.out, E4.out⟩⟩
      case round =>
        clear E3 E4 k0 k1 m0 m1 l0
        obtain ⟨i, rfl, HI, HE⟩ := hrel
        obtain ⟨k0, _⟩ := HE.out.1.cells
        obtain ⟨m0, _⟩ := HE.out.2.cells
        rw [HL.out] at k0
        cases gk with
        | zero =>
          obtain rfl : i = ws.length := by have := HI.out; omega
          have d0 : decide ((ws.length : Int) < (ws.length : Int)) = false := decide_eq_false (by omega)
          go_wp2_with (first
            | (go_at_call 8; (with_reducible refine (armadalaw09_live.calls k true _ HK.out).mono ?_); rintro e w4 ⟨rfl, hb⟩; have HB := Aside0.mk (below_step HE.out.1.2.2.2 hb); clear hb))
          go_ret
          exact ⟨rfl, HB.out⟩
        | succ j1 =>
          have hi : i < ws.length := by have := HI.out; omega
          have hi0 : (0 : Int) ≤ (i : Int) := by omega
          have hi1 : (i : Int) < (ws.length : Int) := by omega
          have d0 : decide ((i : Int) < (ws.length : Int)) = true := decide_eq_true (by omega)
          have hL : ws.length ≤ 9223372036854775807 := (Kd.R_reads' HE.out.2.1).2.2.2.1
          have hw1 : IntKind.i64.wrap ((i : Int) + 1) = (i : Int) + 1 := by rw [IntKind.wrap_i64]; omega
          obtain ⟨q1, q2, q3, q4⟩ := HW.out i hi
          have q5 : (rd_T47 ws2 (i : Int)).f0 = (rd_T47 ws (i : Int)).f0 := by
            rw [ByteArray.toList_eq, ByteArray.toList_eq] at q1
            exact tl_inj q1
          obtain ⟨a1, e1, x1, x2⟩ := at_T47 HE.out.2.row (i : Int) (by omega) (by omega)
          obtain ⟨a2, e2, y1, y2⟩ := at_T47 HE.out.1.row (i : Int) (by omega) (by rw [HL.out]; omega)
          subst e1 e2
          simp only [Int.toNat_natCast] at x1 x2 y1 y2
          rw [q5] at y1
          rw [q2] at y2
          clear q1 q2 q5
          generalize (rd_T47 ws (i : Int)).f0 = T at *
          generalize (rd_T47 ws (i : Int)).f1 = N at *
          have hw2 : IntKind.i64.wrap (N + 2) = N + 2 := by rw [IntKind.wrap_i64]; omega
          go_wp2_with fail
          go_quiet (fail)
          go_wp2
          go_roundg j1
          case measure => omega
          case rel => exact ⟨i + 1, by simp, ⟨by have := HI.out; omega⟩, ⟨HE.out.1.below (pw_below_drewN (Below.refl _ _) _), HE.out.2.below (pw_below_drewN (Below.refl _ _) _)⟩⟩
set_option maxHeartbeats 4000000 in
set_option maxRecDepth 100000 in
theorem blanks_long (k : Nat) (s : ByteArray) (w : World) (hs : 2000 < s.size) (hk : armadalaw09_live.f k = some true) : Calls Tryd.prog 6 #[.string s] w fun e w' => e = .returned (.bool true) ∧ Below w.heap.size w w' := by
  have HK := Aside0.mk hk
  have d0 : decide (2000 < (s.size : Int)) = true := decide_eq_true (by omega)
  have d1 : decide (2000 < s.size) = true := decide_eq_true (by omega)
  clear hs hk
  go_enter Tryd.func6, Tryd.ntmps6
  go_wp2_with (first
    | (go_at_call 8; (with_reducible refine (armadalaw09_live.calls k true _ HK.out).mono ?_); rintro e w4 ⟨rfl, hb⟩; have HB := Aside0.mk hb; clear hb))
  go_ret
  exact ⟨rfl, HB.out⟩
set_option maxHeartbeats 4000000 in
set_option maxRecDepth 100000 in
theorem blanks_skip (k : Nat) (s : ByteArray) (w : World) (hs : s.size ≤ 2000) (ws : List S47) (nt : ByteArray) (er : Int) (h1 : lex_One.f s = some (ws, nt, er)) (he : er ≠ 0 ∨ (er = 0 ∧ nt.toList ≠ [])) (hk : armadalaw09_live.f k = some true) : Calls Tryd.prog 6 #[.string s] w fun e w' => e = .returned (.bool true) ∧ Below w.heap.size w w' := by
  have H1 := Aside0.mk h1
  have HK := Aside0.mk hk
  have d0 : decide (2000 < (s.size : Int)) = false := decide_eq_false (by omega)
  have d1 : decide (2000 < s.size) = false := decide_eq_false (by omega)
  clear hs h1 hk
  rcases he with he | ⟨he, hn⟩
  · have c0 : (er == 0) = false := beq_eq_false_iff_ne.2 he
    have c1 : (er != 0) = true := bne_iff_ne.2 he
    clear he
    go_enter Tryd.func6, Tryd.ntmps6
    go_wp2_with (first
      | (go_at_call 9; (with_reducible refine (lex_One.calls s ws nt er _ H1.out).mono ?_); rintro e w2 ⟨v0, rfl, hr, hb⟩; obtain ⟨A1, c1, e1⟩ := Kd.R_slice hr; subst e1; have HB := Aside0.mk (hb.alloc hb.size (.cells #[.slice A1 ws.length c1, .string nt] 25 (0, 0))); clear hr hb)
      | (go_at_call 8; (with_reducible refine (armadalaw09_live.calls k true _ HK.out).mono ?_); rintro e w4 ⟨rfl, hb⟩; have HC := Aside0.mk (below_step HB.out hb); clear hb))
    go_ret
    exact ⟨rfl, HC.out⟩
  · subst he
    have c0 : (nt.toList == []) = false := beq_eq_false_iff_ne.2 hn
    have c1 : (nt.toList != []) = true := bne_iff_ne.2 hn
    clear hn
    go_enter Tryd.func6, Tryd.ntmps6
    go_wp2_with (first
      | (go_at_call 9; (with_reducible refine (lex_One.calls s ws nt 0 _ H1.out).mono ?_); rintro e w2 ⟨v0, rfl, hr, hb⟩; obtain ⟨A1, c1, e1⟩ := Kd.R_slice hr; subst e1; have HB := Aside0.mk (hb.alloc hb.size (.cells #[.slice A1 ws.length c1, .string nt] 25 (0, 0))); clear hr hb)
      | (go_at_call 8; (with_reducible refine (armadalaw09_live.calls k true _ HK.out).mono ?_); rintro e w4 ⟨rfl, hb⟩; have HC := Aside0.mk (below_step HB.out hb); clear hb))
    go_ret
    exact ⟨rfl, HC.out⟩
end Go.Proofs.YtonjofjdmlblfaaDoor.P
