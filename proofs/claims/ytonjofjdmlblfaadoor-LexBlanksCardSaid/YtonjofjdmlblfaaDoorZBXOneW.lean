/- lex: One, walked. -/
import Derived.Test.YtonjofjdmlblfaaDoorZBXOne
import Derived.Deep.LoopGhost
namespace Go.Proofs.YtonjofjdmlblfaaDoor.P
open Go.RowKit Go.Proofs.YtonjofjdmlblfaaDoorW.PrintWords Go.Proofs.YtonjofjdmlblfaaDoorW.PrintLast Go.Proofs.YtonjofjdmlblfaaDoorW.PrintMore
attribute [local go_sem] max2_int min2_int max_two min_two max_three min_three max_four min_four
set_option linter.unusedVariables false
set_option linter.unusedSimpArgs false
/-- The answer's block is at its place, nothing else was made. -/
def OneS (w : World) (w' : World) : Prop := w'.heap[w.heap.size]? = some (.cells #[.slice none 0 0, .string ⟨#[]⟩] 25 (0, 0)) ∧ Below w.heap.size w w' ∧ w'.heap.size = w.heap.size + 1
theorem OneS.init (w : World) : OneS w (w.alloc (.cells #[.slice none 0 0, .string ⟨#[]⟩] 25 (0, 0))) :=
  ⟨blk_new w _, (Below.refl _ _).alloc (Nat.le_refl _) _, World.size_alloc _ _⟩
theorem OneS.drewN {w w' : World} (h : OneS w w') (n : Nat) : OneS w (w'.drewN n) := ⟨blk_drewN h.1 n, pw_below_drewN h.2.1 n, h.2.2⟩
theorem res9 {tmps : Array Value} {W : World} {r : Nat} {A : Option Addr} {p q : Nat} {n : ByteArray} {x : Int} (h0 : W.cell? ⟨r, 0, none⟩ = some (.slice A p q)) (h1 : W.cell? ⟨r, 1, none⟩ = some (.string n)) (ht2 : tmps.getD 2 undef = .pointer (some ⟨r, 0, none⟩)) (ht3 : tmps.getD 3 undef = .int .i64 x) :
    (results Tryd.f9 tmps).run Tryd.prog W = .ok (.tuple #[.agg #[.slice A p q, .string n], .int .i64 x]) W := by
  have e : Tryd.f9.results = #[.cell 2 25, .tmp 3] := rfl
  unfold results
  rw [e]
  simp only [List.mapM_toArray, Array.mapM_eq_mapM_toList, List.mapM_cons, List.mapM_nil, ht2, ht3]
  go_simp
set_option maxHeartbeats 8000000 in
set_option maxRecDepth 100000 in
theorem one_plain (s : ByteArray) (w : World) (hs : s.size ≤ 1000000) (hno : ∀ i : Nat, i < s.size → oddC (bt s (i : Int)) = false) :
    Calls Tryd.prog 9 #[.string s] w fun e w' => ∃ v0, e = .returned (.tuple #[.agg #[v0, .string (scan s s.size 0 [] (-1)).2], .int .i64 0]) ∧ Kd.R k47 47 w' w.heap.size (fun _ => True) v0 (scan s s.size 0 [] (-1)).1 ∧ Below w.heap.size w w' := by
  have HI := Aside0.mk (OneS.init w)
  have HS := Aside0.mk hs
  have HO := Aside0.mk hno
  clear hs hno
  go_enter Tryd.func9, Tryd.ntmps9
  go_wp2
  go_loopg [9] s.size (fun kq v9 w' => ∃ i : Nat, v9 = .int .i64 (i : Int) ∧ Aside0 (kq + i = s.size) ∧ Aside0 (OneS w w'))
  case atStart => exact ⟨0, rfl, ⟨by omega⟩, HI⟩
  case round =>
    clear HI
    obtain ⟨i, rfl, HK, HW⟩ := hrel
    cases gk with
    | zero =>
      have e0 : ((i : Int)) = (s.size : Int) := by have := HK.out; omega
      have d0 : decide ((i : Int) < (s.size : Int)) = false := decide_eq_false (by omega)
      go_wp2
      obtain ⟨wo, ho⟩ : ∃ x, x = wr := ⟨wr, rfl⟩
      subst ho
      go_loopg [23] s.size (fun kq v23 w' => ∃ (i : Nat) (ws : List S47) (f : Int), v23 = .int .i64 (i : Int) ∧ Aside0 (kq + i = s.size) ∧ Aside0 (scan s kq i ws f = scan s s.size 0 [] (-1)) ∧ Aside0 (ws.length ≤ 2 * i ∧ (f < 0 ∨ (0 ≤ f ∧ f ≤ (i : Int)))) ∧ Aside0 (LexSt wo wo.heap.size s ws ⟨#[]⟩ f w'))
      case atStart => exact ⟨0, [], -1, rfl, ⟨by omega⟩, ⟨rfl⟩, ⟨by simp⟩, ⟨⟨.slice none 0 0, blk_new wo _, Kd.R_nil _ _ _ _ _, (Below.refl _ _).alloc (Nat.le_refl _) _, Nat.le_refl _⟩⟩⟩
      case round =>
        clear d0 e0 HK
        obtain ⟨i, ws, f, rfl, HK, HX, HL, HT⟩ := hrel
        cases gk with
        | zero =>
          obtain rfl : i = s.size := by have := HK.out; omega
          have d0 : decide ((s.size : Int) < (s.size : Int)) = false := decide_eq_false (by omega)
          go_upto_region 15 with (first
            | (go_at_call 21; (with_reducible refine (cut_any HT.out (s.size : Int) HL.out.2 (by omega) (by have := HL.out; have := HS.out; omega)).mono ?_); rintro e w2 ⟨rfl, HC⟩))
          obtain ⟨v, hb, hr, hbl, hg⟩ := HC.out
          obtain ⟨A1, q1, e1⟩ := Kd.R_slice hr
          subst e1
          clear HC
          have hz := blk_below HW.out.1 hbl
          have c0 : w2.cell? ⟨wo.heap.size, 0, none⟩ = some (.slice A1 (cutW s ws f s.size).length q1) := blk_cell hb 0
          have c1 : w2.cell? ⟨wo.heap.size, 1, none⟩ = some (.string ⟨#[]⟩) := blk_cell hb 1
          have r0 : w2.cell? ⟨w.heap.size, 0, none⟩ = some (.slice none 0 0) := blk_cell hz 0
          have r1 : w2.cell? ⟨w.heap.size, 1, none⟩ = some (.string ⟨#[]⟩) := blk_cell hz 1
          have q0 : w2.frozen? ⟨w.heap.size, 0, none⟩ = false := blk_frozen hz 0
          have q2 : w2.frozen? ⟨w.heap.size, 1, none⟩ = false := blk_frozen hz 1
          have HZ := Aside0.mk hz
          have HR := Aside0.mk hr
          have HBL := Aside0.mk hbl
          clear hb hr hbl hg hz
          go_wp2
          (try simp only [Exit.inBlock, Exit.then])
          have HF := blk_set (blk_set HZ.out 0 (.slice A1 (cutW s ws f s.size).length q1)) 1 (.string ⟨#[]⟩)
          refine bodyPost_ret (res9 (r := w.heap.size) (x := 0) (A := A1) (p := (cutW s ws f s.size).length) (q := q1) (n := ⟨#[]⟩) (blk_cell HF 0) (blk_cell HF 1) rfl rfl) rfl ?_
          have e := HX.out
          simp only [scan] at e
          rw [← e]
          refine ⟨_, rfl, Kd.R_lower (Kd.R_set (Kd.R_set HR.out HZ.out (by decide) 0 _) (blk_set HZ.out 0 _) (by decide) 1 _) (by have := HW.out.2.2; omega), ?_⟩
          exact (((below_step HW.out.2.1 HBL.out).setCell (Nat.le_refl _) _).setCell (Nat.le_refl _) _)
        | succ k1 =>
          have hi : i < s.size := by have := HK.out; omega
          have hi2 : (i : Int) < (s.size : Int) := by omega
          have d0 : decide ((i : Int) < (s.size : Int)) = true := decide_eq_true (by omega)
          have hw1 : IntKind.i64.wrap ((i : Int) + 1) = (i : Int) + 1 := by rw [IntKind.wrap_i64]; have := HS.out; omega
          by_cases cn : f < 0 ∧ isNote s i = true
          · have hp : Aside0 (strings_HasPrefix.f (s.extract i s.size) ⟨#[47, 47]⟩ = some true) := ⟨by rw [hasPrefix_note s i hi, cn.2]⟩
            have hf := Aside0.mk cn.1
            have CN := Aside0.mk cn
            clear cn
            go_upto_region 12 with (first
              | (go_at_call 20; (with_reducible refine (take_note HT.out i hi hf.out hp.out).mono ?_); rintro e w2 ⟨rfl, HC⟩))
            obtain ⟨v, hb, hr, hbl, hg⟩ := HC.out
            obtain ⟨A1, q1, e1⟩ := Kd.R_slice hr
            subst e1
            clear HC
            have hz := blk_below HW.out.1 hbl
            have c0 : w2.cell? ⟨wo.heap.size, 0, none⟩ = some (.slice A1 ws.length q1) := blk_cell hb 0
            have c1 : w2.cell? ⟨wo.heap.size, 1, none⟩ = some (.string (s.extract i s.size)) := blk_cell hb 1
            have r0 : w2.cell? ⟨w.heap.size, 0, none⟩ = some (.slice none 0 0) := blk_cell hz 0
            have r1 : w2.cell? ⟨w.heap.size, 1, none⟩ = some (.string ⟨#[]⟩) := blk_cell hz 1
            have q0 : w2.frozen? ⟨w.heap.size, 0, none⟩ = false := blk_frozen hz 0
            have q2 : w2.frozen? ⟨w.heap.size, 1, none⟩ = false := blk_frozen hz 1
            have HZ := Aside0.mk hz
            have HR := Aside0.mk hr
            have HBL := Aside0.mk hbl
            clear hb hr hbl hg hz
            go_wp2
            (try simp only [Exit.inBlock, Exit.then])
            have HF := blk_set (blk_set HZ.out 0 (.slice A1 ws.length q1)) 1 (.string (s.extract i s.size))
            refine bodyPost_ret (res9 (r := w.heap.size) (x := 0) (A := A1) (p := ws.length) (q := q1) (n := s.extract i s.size) (blk_cell HF 0) (blk_cell HF 1) rfl rfl) rfl ?_
            have e := HX.out
            simp only [scan] at e
            rw [if_pos CN.out] at e
            rw [← e]
            refine ⟨_, rfl, Kd.R_lower (Kd.R_set (Kd.R_set HR.out HZ.out (by decide) 0 _) (blk_set HZ.out 0 _) (by decide) 1 _) (by have := HW.out.2.2; omega), ?_⟩
            exact (((below_step HW.out.2.1 HBL.out).setCell (Nat.le_refl _) _).setCell (Nat.le_refl _) _)
          · have CN := Aside0.mk cn
            clear cn
            go_wp2_with (first
              | (go_at_call 20; (with_reducible refine (take_on HT.out i hi HL.out.2 CN.out (by have := HL.out; have := HS.out; omega) (by have := HS.out; omega)).mono ?_); rintro e w2 ⟨rfl, HC⟩))
            go_roundg k1
            case measure => omega
            case rel =>
              refine ⟨i + 1, (next s i ws f).1, (next s i ws f).2, by simp, ⟨by have := HK.out; omega⟩, ⟨?_⟩, ⟨by have := next_len s i ws f; have := HL.out; omega, next_from s i ws f HL.out.2⟩, HC⟩
              have e := HX.out
              simp only [scan] at e
              rw [if_neg CN.out] at e
              exact e
    | succ k1 =>
      have hi : i < s.size := by have := HK.out; omega
      have hi2 : (i : Int) < (s.size : Int) := by omega
      have hi0 : (0 : Int) ≤ (i : Int) := by omega
      have d0 : decide ((i : Int) < (s.size : Int)) = true := decide_eq_true (by omega)
      have hw1 : IntKind.i64.wrap ((i : Int) + 1) = (i : Int) + 1 := by rw [IntKind.wrap_i64]; have := HS.out; omega
      have ho : Aside0 (lex_odd.f (((s[i]).toNat : Int)) = some false) := ⟨by rw [← bt_nat s i hi, odd_f, HO.out i hi]⟩
      go_wp2_with (first
        | (go_at_call 19; (with_reducible refine (lex_odd.calls (((s[i]).toNat : Int)) false _ ho.out).mono ?_); rintro e w2 ⟨rfl, ⟨nd, rfl⟩⟩))
      go_roundg k1
      case measure => omega
      case rel => exact ⟨i + 1, by simp, ⟨by have := HK.out; omega⟩, ⟨HW.out.drewN nd⟩⟩
set_option maxHeartbeats 8000000 in
set_option maxRecDepth 100000 in
theorem one_odd (s : ByteArray) (w : World) (hs : s.size ≤ 1000000) (m : Nat) (hm : m < s.size) (hod : oddC (bt s (m : Int)) = true) (hno : ∀ i : Nat, i < m → oddC (bt s (i : Int)) = false) :
    Calls Tryd.prog 9 #[.string s] w fun e w' => ∃ v0, e = .returned (.tuple #[.agg #[v0, .string ⟨#[]⟩], .int .i64 9]) ∧ Kd.R k47 47 w' w.heap.size (fun _ => True) v0 ([] : List S47) ∧ Below w.heap.size w w' := by
  have HI := Aside0.mk (OneS.init w)
  have HS := Aside0.mk hs
  have HO := Aside0.mk hno
  have HD := Aside0.mk hod
  clear hs hno hod
  go_enter Tryd.func9, Tryd.ntmps9
  go_wp2
  go_loopg [9] m (fun kq v9 w' => ∃ i : Nat, v9 = .int .i64 (i : Int) ∧ Aside0 (kq + i = m) ∧ Aside0 (OneS w w'))
  case atStart => exact ⟨0, rfl, ⟨by omega⟩, HI⟩
  case round =>
    clear HI
    obtain ⟨i, rfl, HK, HW⟩ := hrel
    have hi : i < s.size := by have := HK.out; omega
    have hi2 : (i : Int) < (s.size : Int) := by omega
    have hi0 : (0 : Int) ≤ (i : Int) := by omega
    have d0 : decide ((i : Int) < (s.size : Int)) = true := decide_eq_true (by omega)
    have hw1 : IntKind.i64.wrap ((i : Int) + 1) = (i : Int) + 1 := by rw [IntKind.wrap_i64]; have := HS.out; omega
    cases gk with
    | zero =>
      have ho : Aside0 (lex_odd.f (((s[i]).toNat : Int)) = some true) := ⟨by rw [← bt_nat s i hi, odd_f, show i = m by (have := HK.out; omega), HD.out]⟩
      go_upto_region 5 with (first
        | (go_at_call 19; (with_reducible refine (lex_odd.calls (((s[i]).toNat : Int)) true _ ho.out).mono ?_); rintro e w2 ⟨rfl, ⟨nd, rfl⟩⟩))
      have HZ := HW.out.drewN nd
      have r0 : (wr.drewN nd).cell? ⟨w.heap.size, 0, none⟩ = some (.slice none 0 0) := blk_cell HZ.1 0
      have r1 : (wr.drewN nd).cell? ⟨w.heap.size, 1, none⟩ = some (.string ⟨#[]⟩) := blk_cell HZ.1 1
      have q0 : (wr.drewN nd).frozen? ⟨w.heap.size, 0, none⟩ = false := blk_frozen HZ.1 0
      have q2 : (wr.drewN nd).frozen? ⟨w.heap.size, 1, none⟩ = false := blk_frozen HZ.1 1
      replace HZ := Aside0.mk HZ
      go_wp2
      (try simp only [Exit.inBlock, Exit.then])
      have HF := blk_set (blk_set HZ.out.1 0 (.slice none 0 0)) 1 (.string ⟨#[]⟩)
      refine bodyPost_ret (res9 (r := w.heap.size) (x := 9) (A := none) (p := 0) (q := 0) (n := ⟨#[]⟩) (blk_cell HF 0) (blk_cell HF 1) rfl rfl) rfl ?_
      exact ⟨_, rfl, Kd.R_nil _ _ _ _ _, ((HZ.out.2.1.setCell (Nat.le_refl _) _).setCell (Nat.le_refl _) _)⟩
    | succ k1 =>
      have ho : Aside0 (lex_odd.f (((s[i]).toNat : Int)) = some false) := ⟨by rw [← bt_nat s i hi, odd_f, HO.out i (by have := HK.out; omega)]⟩
      go_wp2_with (first
        | (go_at_call 19; (with_reducible refine (lex_odd.calls (((s[i]).toNat : Int)) false _ ho.out).mono ?_); rintro e w2 ⟨rfl, ⟨nd, rfl⟩⟩))
      go_roundg k1
      case measure => omega
      case rel => exact ⟨i + 1, by simp, ⟨by have := HK.out; omega⟩, ⟨HW.out.drewN nd⟩⟩
/-- Whether a byte at or behind i is odd. -/
def anyOdd (s : ByteArray) : Nat → Nat → Bool
  | 0, _ => false
  | n + 1, i => oddC (bt s (i : Int)) || anyOdd s n (i + 1)
theorem anyOdd_false {s : ByteArray} : ∀ {n i : Nat}, anyOdd s n i = false → ∀ j, i ≤ j → j < i + n → oddC (bt s (j : Int)) = false
  | 0, i, _, j, h1, h2 => by omega
  | n + 1, i, h, j, h1, h2 => by
    simp only [anyOdd, Bool.or_eq_false_iff] at h
    by_cases c : j = i
    · subst c; exact h.1
    · exact anyOdd_false h.2 j (by omega) (by omega)
theorem anyOdd_true {s : ByteArray} : ∀ {n i : Nat}, anyOdd s n i = true → ∃ m, i ≤ m ∧ m < i + n ∧ oddC (bt s (m : Int)) = true ∧ ∀ j, i ≤ j → j < m → oddC (bt s (j : Int)) = false
  | 0, i, h => by cases h
  | n + 1, i, h => by
    by_cases c : oddC (bt s (i : Int)) = true
    · exact ⟨i, Nat.le_refl _, by omega, c, fun j h1 h2 => by omega⟩
    · simp only [anyOdd, Bool.or_eq_true] at h
      replace h := h.resolve_left c
      obtain ⟨m, h1, h2, h3, h4⟩ := anyOdd_true h
      refine ⟨m, by omega, by omega, h3, fun j h5 h6 => ?_⟩
      by_cases cj : j = i
      · subst cj; exact Bool.eq_false_iff.2 c
      · exact h4 j (by omega) h6
def lex_One.f (s : ByteArray) : Option (List S47 × ByteArray × Int) :=
  if s.size ≤ 1000000 then some (if anyOdd s s.size 0 = true then ([], ⟨#[]⟩, 9) else ((scan s s.size 0 [] (-1)).1, (scan s s.size 0 [] (-1)).2, 0)) else none
theorem lex_One.calls (a0 : ByteArray) (r1 : List S47) (r2 : ByteArray) (r3 : Int) (w : World) (h : lex_One.f a0 = some (r1, r2, r3)) :
    Calls Tryd.prog 9 #[.string a0] w fun e w' => ∃ v0, e = .returned (.tuple #[.agg #[v0, .string r2], .int .i64 r3]) ∧ Kd.R k47 47 w' w.heap.size (fun _ => True) v0 r1 ∧ Below w.heap.size w w' := by
  unfold lex_One.f at h
  by_cases c : a0.size ≤ 1000000
  · rw [if_pos c] at h
    replace h := Option.some.inj h
    by_cases co : anyOdd a0 a0.size 0 = true
    · rw [if_pos co] at h
      obtain ⟨m, _, hm, ho, hno⟩ := anyOdd_true co
      simp only [Prod.mk.injEq] at h
      obtain ⟨h1, h2, h3⟩ := h
      subst h1 h2 h3
      exact one_odd a0 w c m (by omega) ho (fun i hi => hno i (Nat.zero_le _) hi)
    · rw [if_neg co] at h
      simp only [Prod.mk.injEq] at h
      obtain ⟨h1, h2, h3⟩ := h
      subst h1 h2 h3
      exact one_plain a0 w c (fun i hi => anyOdd_false (Bool.eq_false_iff.2 co) i (Nat.zero_le _) (by omega))
  · rw [if_neg c] at h; cases h
end Go.Proofs.YtonjofjdmlblfaaDoor.P
