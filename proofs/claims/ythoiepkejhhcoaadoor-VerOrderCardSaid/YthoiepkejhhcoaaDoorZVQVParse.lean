/- ver: Parse, walked. -/
import Derived.Test.YthoiepkejhhcoaaDoorZVQM3
import Derived.Test.YthoiepkejhhcoaaDoorZVQVGiven
import Derived.Test.YthoiepkejhhcoaaDoorZVQVCheck
import Derived.Test.YthoiepkejhhcoaaDoorZVQGSplit
import Derived.Deep.LoopGhost
import Derived.Outline
import Derived.Lib.ItoaLen
namespace Go.Proofs.YthoiepkejhhcoaaDoor.P
open Go.RowKit Go.Proofs.YthoiepkejhhcoaaDoorW.PrintWords Go.Proofs.YthoiepkejhhcoaaDoorW.PrintLast Go.Proofs.YthoiepkejhhcoaaDoorW.PrintMore
attribute [local go_sem] max2_int min2_int max_two min_two max_three min_three max_four min_four
set_option linter.unusedVariables false
set_option linter.unusedSimpArgs false
def emp : ByteArray := ⟨#[]⟩
/-- Ahead of and behind the first sign; the text and nothing, if there is none. -/
def hasC (c : UInt8) (s : ByteArray) : Bool := cnt c s != 0
def cut2 (c : UInt8) (s : ByteArray) : ByteArray × ByteArray := if cnt c s = 0 then (s, emp) else (s.extract 0 (ix c s), s.extract (ix c s + 1) s.size)
theorem cut2_size (c : UInt8) (s : ByteArray) : (cut2 c s).1.size ≤ s.size ∧ (cut2 c s).2.size ≤ s.size := by
  unfold cut2
  split
  · exact ⟨Nat.le_refl _, Nat.zero_le _⟩
  · exact ⟨by rw [ByteArray.size_extract]; omega, by rw [ByteArray.size_extract]; omega⟩
set_option maxHeartbeats 4000000 in
set_option maxRecDepth 100000 in
theorem lcut_any (c : UInt8) (s : ByteArray) (hs : s.size ≤ 1000000) (w : World) : Calls Tryd.prog 44 #[.string s, .string ⟨#[c]⟩] w fun e w' => e = .returned (.tuple #[.string (cut2 c s).1, .string (cut2 c s).2, .bool (hasC c s)]) ∧ Drawn0 w w' := by
  have HS := Aside0.mk hs
  have h1 : (⟨#[c]⟩ : ByteArray).size = 1 := rfl
  clear hs
  unfold cut2
  by_cases hc : cnt c s = 0
  · rw [if_pos hc, show hasC c s = false from bne_eq_false_iff_eq.2 hc]
    have HI := Aside0.mk (cnt_none hc)
    clear hc
    go_enter Tryd.func44, Tryd.ntmps44
    go_wp2_with (go_at_call 59; refine (YthoiepkejhhcoaaDoorS.stringslite_Index_one s c _).mono ?_; rintro e w' ⟨rfl, hww⟩; subst w'; rw [HI.out])
    go_ret3
    exact ⟨rfl, Drawn0.refl _⟩
  · rw [if_neg hc, show hasC c s = true from bne_iff_ne.2 hc]
    have hx := cnt_pos (c := c) (s := s) (by omega)
    have HI := Aside0.mk hx.1
    have hm := hx.2.1
    clear hx hc
    generalize ix c s = m at *
    have m0 : decide (0 ≤ (m : Int)) = true := decide_eq_true (by omega)
    have m1 : (m : Int) ≤ (s.size : Int) := by omega
    have m3 : IntKind.i64.wrap ((m : Int) + 1) = (m : Int) + 1 := by rw [IntKind.wrap_i64]; have := HS.out; omega
    have m4 : (m : Int) + 1 ≤ (s.size : Int) := by omega
    have m5 : (0 : Int) ≤ (m : Int) + 1 := by omega
    have m6 : (0 : Int) ≤ (m : Int) := by omega
    go_enter Tryd.func44, Tryd.ntmps44
    go_wp2_with (go_at_call 59; refine (YthoiepkejhhcoaaDoorS.stringslite_Index_one s c _).mono ?_; rintro e w' ⟨rfl, hww⟩; subst w'; rw [HI.out])
    go_quiet (fail)
    go_wp2
    go_ret3
    exact ⟨rfl, ⟨⟨_, rfl⟩⟩⟩
set_option maxHeartbeats 4000000 in
set_option maxRecDepth 100000 in
theorem cut_any (c : UInt8) (s : ByteArray) (hs : s.size ≤ 1000000) (w : World) : Calls Tryd.prog 24 #[.string s, .string ⟨#[c]⟩] w fun e w' => e = .returned (.tuple #[.string (cut2 c s).1, .string (cut2 c s).2, .bool (hasC c s)]) ∧ Drawn0 w w' := by
  go_enter Tryd.func24, Tryd.ntmps24
  go_wp2_with (go_at_call 44; refine (lcut_any c s hs _).mono ?_; rintro e w' ⟨rfl, ⟨nd, rfl⟩⟩)
  go_ret3
  exact ⟨rfl, ⟨⟨_, rfl⟩⟩⟩
def hasV (s : ByteArray) : Bool := decide (0 < s.size) && (bt s 0 == 118)
theorem list_cut (s : ByteArray) : Lib.hasPrefix s.data.toList [118] = hasV s ∧ (hasV s = true → (⟨(Lib.trimPrefix s.data.toList [118]).toArray⟩ : ByteArray) = s.extract 1 s.size) := by
  have hz : s.data.toList.length = s.size := by rw [Array.length_toList]; rfl
  unfold Lib.trimPrefix Lib.hasPrefix hasV
  cases hl : s.data.toList with
  | nil =>
    rw [hl] at hz
    have : s.size = 0 := by simpa using hz.symm
    rw [decide_eq_false (by omega)]
    exact ⟨rfl, fun h => by cases h⟩
  | cons x r =>
    rw [hl] at hz
    have hp : 0 < s.size := by simp at hz; omega
    have hx : s[0] = x := by
      have : s.data.toList[0]'(by rw [hl]; simp) = x := by simp [hl]
      rw [← this, Array.getElem_toList]; rfl
    have hb : bt s 0 = (x.toNat : Int) := by
      have := bt_nat s 0 hp
      rw [show ((0 : Nat) : Int) = 0 from rfl] at this
      rw [this, hx]
    rw [hb, decide_eq_true hp, Bool.true_and]
    have e : List.isPrefixOf [118] (x :: r) = ((x.toNat : Int) == 118) := by
      simp only [List.isPrefixOf, Bool.and_true]
      rw [Bool.eq_iff_iff, beq_iff_eq, beq_iff_eq]
      constructor
      · intro h; rw [← h]; rfl
      · intro h; exact (UInt8.toNat_inj.1 (by have : x.toNat = 118 := by omega
                                              rw [this]; rfl)).symm
    refine ⟨e, fun h => ?_⟩
    rw [e, h, if_pos rfl]
    apply tl_inj
    rw [ByteArray.data_extract, Array.toList_extract, hl, List.extract_eq_take_drop, List.take_of_length_le (by rw [List.length_drop, hz]; omega)]
    rfl
theorem cutV_yes (s : ByteArray) (h : hasV s = true) (w : World) : Calls Tryd.prog 23 #[.string s, .string ⟨#[118]⟩] w fun e w' => e = .returned (.tuple #[.string (s.extract 1 s.size), .bool true]) ∧ w = w' := by
  refine (Tryd.strings_CutPrefix s ⟨#[118]⟩ w).mono ?_
  rintro e w' ⟨rfl, rfl⟩
  have := list_cut s
  exact ⟨by rw [show (⟨#[118]⟩ : ByteArray).data.toList = [118] from rfl, this.1, this.2 h, h], rfl⟩
theorem cutV_no (s : ByteArray) (h : hasV s = false) (w : World) : Calls Tryd.prog 23 #[.string s, .string ⟨#[118]⟩] w fun e w' => (∃ x, e = .returned (.tuple #[.string x, .bool false])) ∧ w = w' := by
  refine (Tryd.strings_CutPrefix s ⟨#[118]⟩ w).mono ?_
  rintro e w' ⟨rfl, rfl⟩
  have := list_cut s
  exact ⟨⟨_, by rw [show (⟨#[118]⟩ : ByteArray).data.toList = [118] from rfl, this.1, h]⟩, rfl⟩
def atoiO (s : ByteArray) : Option Int := match Lib.atoiAll s.data.toList with
  | .ok v => some v
  | _ => none
theorem atoi_some (s : ByteArray) (v : Int) (hs : s.size ≤ 1000000) (h : atoiO s = some v) (w : World) : Calls Tryd.prog 26 #[.string s] w fun e w' => e = .returned (.tuple #[.int .i64 v, .nilIface]) ∧ Below w.heap.size w w' := by
  unfold atoiO at h
  split at h
  · rename_i u hu
    obtain rfl := Option.some.inj h
    refine (Tryd.strconv_Atoi_ok s (by omega) u hu w).mono ?_
    rintro e w' ⟨rfl, rfl | ⟨t, rfl⟩⟩
    · exact ⟨rfl, Below.refl _ _⟩
    · exact ⟨rfl, Lib.bytesWorld_below _ _ _⟩
  · cases h
theorem atoi_none (s : ByteArray) (hs : s.size ≤ 1000000) (h : atoiO s = none) (w : World) (LW : LaidW w) : Calls Tryd.prog 26 #[.string s] w fun e w' => (∃ x te p, e = .returned (.tuple #[.int .i64 x, .iface te p])) ∧ Below w.heap.size w w' := by
  unfold atoiO at h
  have three : ∀ z : Lib.NumEnd Int, (∃ v, z = .ok v) ∨ z = Lib.NumEnd.syntax ∨ z = .range := fun z => by
    cases z
    · exact .inl ⟨_, rfl⟩
    · exact .inr (.inl rfl)
    · exact .inr (.inr rfl)
  rcases three (Lib.atoiAll s.data.toList) with ⟨v, hu⟩ | hu | hu
  · rw [hu] at h; cases h
  · obtain ⟨ev, h1, h2⟩ := LW.stx
    refine (Tryd.strconv_Atoi_syntax s (by omega) hu ev w h1 h2).mono ?_
    rintro e w' ⟨N, rfl, _, _, hb⟩
    exact ⟨⟨_, _, _, rfl⟩, hb⟩
  · obtain ⟨ev, h1, h2⟩ := LW.rng
    refine (Tryd.strconv_Atoi_range s (by omega) hu ev w h1 h2).mono ?_
    rintro e w' ⟨N, rfl, _, _, hb⟩
    exact ⟨⟨_, _, _, rfl⟩, hb⟩
def itoaB (n : Int) : ByteArray := ⟨(Lib.itoa n).toArray⟩
def dotted (a b c : Int) : ByteArray := ((((⟨#[118]⟩ ++ itoaB a) ++ ⟨#[46]⟩) ++ itoaB b) ++ ⟨#[46]⟩) ++ itoaB c
def withPre (s p : ByteArray) : ByteArray := if p.size = 0 then s else s ++ (⟨#[45]⟩ ++ p)
def withBld (s q : ByteArray) : ByteArray := if q.size = 0 then s else s ++ (⟨#[43]⟩ ++ q)
def textZ (a b c : Int) (p q : ByteArray) : ByteArray := if checkB a b c p q = true then withBld (withPre (dotted a b c) p) q else ⟨#[]⟩
theorem itoaB_size (n : Int) (h : numB n = true) : (itoaB n).size ≤ 21 := by
  unfold numB at h
  simp only [Bool.and_eq_true, decide_eq_true_eq] at h
  have := Lib.itoa_length_le n (by omega) (by omega)
  unfold itoaB
  show (Lib.itoa n).toArray.size ≤ 21
  simpa using this
theorem itoa_f (n : Int) (h : numB n = true) : strconv_Itoa.f n = some (itoaB n) := by
  unfold numB at h
  simp only [Bool.and_eq_true, decide_eq_true_eq] at h
  unfold strconv_Itoa.f
  rw [if_pos ⟨by omega, by omega⟩]; rfl
theorem check_nums {a b c : Int} {p q : ByteArray} (h : checkB a b c p q = true) : numB a = true ∧ numB b = true ∧ numB c = true ∧ p.size ≤ 30 ∧ q.size ≤ 30 := by
  unfold checkB at h
  simp only [Bool.and_eq_true, decide_eq_true_eq] at h
  exact ⟨h.1, h.2.1, h.2.2.1, h.2.2.2.1, h.2.2.2.2.1⟩
theorem text_f (a b c : Int) (p q : ByteArray) (hp : p.size ≤ 1000000) (hq : q.size ≤ 1000000) : ver_Text.f a b c p q = some (textZ a b c p q) := by
  unfold ver_Text.f ver_Check.f textZ
  rw [if_pos ⟨hp, hq⟩]
  simp only [Option.bind_some]
  by_cases h : checkB a b c p q = true
  · obtain ⟨n1, n2, n3, n4, n5⟩ := check_nums h
    rw [if_pos h, if_pos h, itoa_f a n1, itoa_f b n2, itoa_f c n3]
    simp only [Option.bind_some]
    have s1 := itoaB_size a n1
    have s2 := itoaB_size b n2
    have s3 := itoaB_size c n3
    have z1 : (⟨#[118]⟩ : ByteArray).size = 1 := rfl
    have z2 : (⟨#[46]⟩ : ByteArray).size = 1 := rfl
    have z3 : (⟨#[45]⟩ : ByteArray).size = 1 := rfl
    have z4 : (⟨#[43]⟩ : ByteArray).size = 1 := rfl
    unfold withBld withPre dotted
    generalize itoaB a = x at *
    generalize itoaB b = y at *
    generalize itoaB c = z at *
    have e1 : ((⟨#[118]⟩ : ByteArray) ++ x).size = 1 + x.size := by rw [ByteArray.size_append, z1]
    have e2 : (((⟨#[118]⟩ : ByteArray) ++ x) ++ (⟨#[46]⟩ : ByteArray)).size = 2 + x.size := by rw [ByteArray.size_append, e1, z2]; omega
    have e3 : ((((⟨#[118]⟩ : ByteArray) ++ x) ++ (⟨#[46]⟩ : ByteArray)) ++ y).size = 2 + x.size + y.size := by rw [ByteArray.size_append, e2]
    have e4 : (((((⟨#[118]⟩ : ByteArray) ++ x) ++ (⟨#[46]⟩ : ByteArray)) ++ y) ++ (⟨#[46]⟩ : ByteArray)).size = 3 + x.size + y.size := by rw [ByteArray.size_append, e3, z2]; omega
    rw [if_pos (by omega), if_pos (by omega), if_pos (by omega), if_pos (by omega), if_pos (by omega)]
    generalize hD : (((((⟨#[118]⟩ : ByteArray) ++ x) ++ (⟨#[46]⟩ : ByteArray)) ++ y) ++ (⟨#[46]⟩ : ByteArray)) ++ z = D at *
    have e5 : D.size = 3 + x.size + y.size + z.size := by rw [← hD, ByteArray.size_append, e4]
    have e6 : ((⟨#[45]⟩ : ByteArray) ++ p).size = 1 + p.size := by rw [ByteArray.size_append, z3]
    have e7 : ((⟨#[43]⟩ : ByteArray) ++ q).size = 1 + q.size := by rw [ByteArray.size_append, z4]
    have e8 : (D ++ ((⟨#[45]⟩ : ByteArray) ++ p)).size = D.size + (1 + p.size) := by rw [ByteArray.size_append, e6]
    by_cases c1 : p.size = 0
    · rw [if_pos ((toList_nil p).2 c1), if_pos c1]
      by_cases c2 : q.size = 0
      · rw [if_pos ((toList_nil q).2 c2), if_pos c2]
      · rw [if_neg (fun h => c2 ((toList_nil q).1 h)), if_neg c2, if_pos (by omega), if_pos (by omega)]
    · rw [if_neg (fun h => c1 ((toList_nil p).1 h)), if_neg c1, if_pos (by omega), if_pos (by omega)]
      by_cases c2 : q.size = 0
      · rw [if_pos ((toList_nil q).2 c2), if_pos c2]
      · rw [if_neg (fun h => c2 ((toList_nil q).1 h)), if_neg c2, if_pos (by omega), if_pos (by omega)]
  · rw [if_neg h, if_neg h]
def zv : Array Value := #[.int .i64 0, .int .i64 0, .int .i64 0, .string ⟨#[]⟩, .string ⟨#[]⟩]
/-- The version as far as i numbers have been read. -/
def fld (v : Nat → Int) (p q : ByteArray) (i : Nat) : Array Value := #[.int .i64 (if 0 < i then v 0 else 0), .int .i64 (if 1 < i then v 1 else 0), .int .i64 (if 2 < i then v 2 else 0), .string p, .string q]
theorem fld_at (v : Nat → Int) (p q : ByteArray) (i : Nat) (h : i < 3) : (fld v p q i)[i]? = some (.int .i64 0) := by
  match i, h with
  | 0, _ => rfl
  | 1, _ => rfl
  | 2, _ => rfl
theorem fld_set (v : Nat → Int) (p q : ByteArray) (i : Nat) (h : i < 3) : (fld v p q i).setIfInBounds i (.int .i64 (v i)) = fld v p q (i + 1) := by
  match i, h with
  | 0, _ => rfl
  | 1, _ => rfl
  | 2, _ => rfl
def ptrs (g : Nat) : Array Value := #[.pointer (some ⟨g, 0, none⟩), .pointer (some ⟨g, 1, none⟩), .pointer (some ⟨g, 2, none⟩)]
theorem ptrs_at (g i : Nat) (h : i < 3) : (ptrs g)[i]? = some (.pointer (some ⟨g, i, none⟩)) := by
  match i, h with
  | 0, _ => rfl
  | 1, _ => rfl
  | 2, _ => rfl
structure PE (w W : World) (gr gv : Nat) (cs : Array Value) : Prop where
  r : W.heap[gr]? = some (.cells zv 23 (0, 0))
  v : W.heap[gv]? = some (.cells cs 23 (0, 0))
  lr : w.heap.size ≤ gr
  lv : gr < gv
  b : Below w.heap.size w W
theorem PE.below {w W W' : World} {gr gv : Nat} {cs : Array Value} (h : PE w W gr gv cs) (hb : Below W.heap.size W W') : PE w W' gr gv cs :=
  ⟨blk_below h.r hb, blk_below h.v hb, h.lr, h.lv, below_step h.b hb⟩
theorem PE.drewN {w W : World} {gr gv : Nat} {cs : Array Value} (h : PE w W gr gv cs) (n : Nat) : PE w (W.drewN n) gr gv cs := h.below (pw_below_drewN (Below.refl _ _) n)
theorem PE.new (w : World) : PE w ((w.alloc (.cells zv 23 (0, 0))).alloc (.cells zv 23 (0, 0))) w.heap.size (w.heap.size + 1) zv := by
  refine ⟨blk_alloc (blk_new w _) _, ?_, Nat.le_refl _, by omega, ((Below.refl _ w).alloc (Nat.le_refl _) _).alloc (by simp) _⟩
  have := blk_new (w.alloc (.cells zv 23 (0, 0))) (.cells zv 23 (0, 0))
  rwa [World.size_alloc] at this
theorem PE.set {w W : World} {gr gv : Nat} {cs : Array Value} (h : PE w W gr gv cs) (i : Nat) (u : Value) : PE w (W.setCell ⟨gv, i, none⟩ u) gr gv (cs.setIfInBounds i u) :=
  ⟨blk_far h.r (p := ⟨gv, i, none⟩) (by have := h.lv; simp; omega) u, blk_set h.v i u, h.lr, h.lv, h.b.setCell (by have := h.lr; have := h.lv; simp; omega) u⟩
theorem PE.rcells {w W : World} {gr gv : Nat} {cs : Array Value} (h : PE w W gr gv cs) : (W.cell? ⟨gr, 0, none⟩ = some (.int .i64 0) ∧ W.cell? ⟨gr, 1, none⟩ = some (.int .i64 0) ∧ W.cell? ⟨gr, 2, none⟩ = some (.int .i64 0) ∧ W.cell? ⟨gr, 3, none⟩ = some (.string ⟨#[]⟩) ∧ W.cell? ⟨gr, 4, none⟩ = some (.string ⟨#[]⟩)) ∧
    W.frozen? ⟨gr, 0, none⟩ = false ∧ W.frozen? ⟨gr, 1, none⟩ = false ∧ W.frozen? ⟨gr, 2, none⟩ = false ∧ W.frozen? ⟨gr, 3, none⟩ = false ∧ W.frozen? ⟨gr, 4, none⟩ = false :=
  ⟨⟨blk_cell h.r 0, blk_cell h.r 1, blk_cell h.r 2, blk_cell h.r 3, blk_cell h.r 4⟩, blk_frozen h.r 0, blk_frozen h.r 1, blk_frozen h.r 2, blk_frozen h.r 3, blk_frozen h.r 4⟩
theorem PE.fill {w W : World} {gr gv : Nat} {cs : Array Value} (h : PE w W gr gv cs) (a b c : Int) (p q : ByteArray) :
    (((((W.setCell ⟨gr, 0, none⟩ (.int .i64 a)).setCell ⟨gr, 1, none⟩ (.int .i64 b)).setCell ⟨gr, 2, none⟩ (.int .i64 c)).setCell ⟨gr, 3, none⟩ (.string p)).setCell ⟨gr, 4, none⟩ (.string q)).heap[gr]? = some (.cells #[.int .i64 a, .int .i64 b, .int .i64 c, .string p, .string q] 23 (0, 0)) ∧
    Below w.heap.size w (((((W.setCell ⟨gr, 0, none⟩ (.int .i64 a)).setCell ⟨gr, 1, none⟩ (.int .i64 b)).setCell ⟨gr, 2, none⟩ (.int .i64 c)).setCell ⟨gr, 3, none⟩ (.string p)).setCell ⟨gr, 4, none⟩ (.string q)) := by
  have h1 := blk_put h.r 0 (.int .i64 a) (cs' := #[.int .i64 a, .int .i64 0, .int .i64 0, .string ⟨#[]⟩, .string ⟨#[]⟩]) rfl
  have h2 := blk_put h1 1 (.int .i64 b) (cs' := #[.int .i64 a, .int .i64 b, .int .i64 0, .string ⟨#[]⟩, .string ⟨#[]⟩]) rfl
  have h3 := blk_put h2 2 (.int .i64 c) (cs' := #[.int .i64 a, .int .i64 b, .int .i64 c, .string ⟨#[]⟩, .string ⟨#[]⟩]) rfl
  have h4 := blk_put h3 3 (.string p) (cs' := #[.int .i64 a, .int .i64 b, .int .i64 c, .string p, .string ⟨#[]⟩]) rfl
  exact ⟨blk_put h4 4 (.string q) rfl, ((((h.b.setCell h.lr _).setCell h.lr _).setCell h.lr _).setCell h.lr _).setCell h.lr _⟩
theorem res11 {tmps : Array Value} {W : World} {r : Nat} {a b c : Int} {p q : ByteArray} {x : Bool} (h : W.heap[r]? = some (.cells #[.int .i64 a, .int .i64 b, .int .i64 c, .string p, .string q] 23 (0, 0))) (ht2 : tmps.getD 2 undef = .pointer (some ⟨r, 0, none⟩)) (ht3 : tmps.getD 3 undef = .bool x) :
    (results Tryd.f11 tmps).run Tryd.prog W = .ok (.tuple #[.agg #[.int .i64 a, .int .i64 b, .int .i64 c, .string p, .string q], .bool x]) W := by
  have h0 : W.cell? ⟨r, 0, none⟩ = some (.int .i64 a) := blk_cell h 0
  have h1 : W.cell? ⟨r, 1, none⟩ = some (.int .i64 b) := blk_cell h 1
  have h2 : W.cell? ⟨r, 2, none⟩ = some (.int .i64 c) := blk_cell h 2
  have h3 : W.cell? ⟨r, 3, none⟩ = some (.string p) := blk_cell h 3
  have h4 : W.cell? ⟨r, 4, none⟩ = some (.string q) := blk_cell h 4
  have e : Tryd.f11.results = #[.cell 2 23, .tmp 3] := rfl
  unfold results
  rw [e]
  simp only [List.mapM_toArray, Array.mapM_eq_mapM_toList, List.mapM_cons, List.mapM_nil, ht2, ht3]
  go_simp
def ParseNo (w : World) (e : Ending) (w' : World) : Prop := e = .returned (.tuple #[.agg zv, .bool false]) ∧ Below w.heap.size w w'
set_option maxHeartbeats 4000000 in
set_option maxRecDepth 100000 in
theorem parse_noV (s : ByteArray) (h : hasV s = false) (w : World) : Calls Tryd.prog 11 #[.string s] w (ParseNo w) := by
  have H := Aside0.mk h
  clear h
  go_enter Tryd.func11, Tryd.ntmps11
  go_wp2_with (go_at_call 23; refine (cutV_no s H.out _).mono ?_; rintro e w' ⟨⟨x, rfl⟩, rfl⟩)
  (try simp only [Exit.inBlock, Exit.then])
  refine bodyPost_ret (res11 (r := w.heap.size) (a := 0) (b := 0) (c := 0) (p := ⟨#[]⟩) (q := ⟨#[]⟩) (x := false) ?_ rfl rfl) rfl ⟨rfl, ?_⟩
  · exact blk_new w _
  · exact (Below.refl _ w).alloc (Nat.le_refl _) _
theorem heap_lt' {W : World} {k : Nat} {o : Obj} (h : W.heap[k]? = some o) : k < W.heap.size := (Array.getElem?_eq_some_iff.1 h).1
theorem old_cells' {W V : World} (hb : Below W.heap.size W V) : (∀ g j, g < W.heap.size → V.cell? ⟨g, j, none⟩ = W.cell? ⟨g, j, none⟩) := fun g j h => hb.cell (p := ⟨g, j, none⟩) h
theorem name_world {P : Program} {c : Code} {Q : Exit → Act → World → Prop} {a : Act} {W : World} (φ : World → Prop) (F : φ W) (h : ∀ W1, φ W1 → c.wp P Q a W1) : c.wp P Q a W := h W F
set_option maxHeartbeats 4000000 in
set_option maxRecDepth 100000 in
theorem parse_len (s r1 bld r2 pre : ByteArray) (hs : s.size ≤ 1000000) (hv : hasV s = true) (h43 : cut2 43 (s.extract 1 s.size) = (r1, bld)) (h45 : cut2 45 r1 = (r2, pre)) (hl : (spl 46 r2).length ≠ 3) (w : World) : Calls Tryd.prog 11 #[.string s] w (ParseNo w) := by
  have v : Nat → Int := fun _ => 0
  have d1 : (((spl 46 r2).length : Int) != 3) = true := bne_iff_ne.2 (by omega)
  have d2 : ((spl 46 r2).length != 3) = true := bne_iff_ne.2 hl
  have d3 : ((spl 46 r2).length == 3) = false := beq_eq_false_iff_ne.2 hl
  clear hl
  have HV := Aside0.mk hv
  have z1 : (s.extract 1 s.size).size ≤ 1000000 := by rw [ByteArray.size_extract]; omega
  have z2 : r1.size ≤ 1000000 := by have := (cut2_size 43 (s.extract 1 s.size)).1; rw [h43] at this; exact Nat.le_trans this z1
  have z3 : r2.size ≤ 1000000 := by have := (cut2_size 45 r1).1; rw [h45] at this; exact Nat.le_trans this z2
  have Z := Aside0.mk (And.intro z1 (And.intro z2 z3))
  have HB0 := Aside0.mk (PE.new w)
  have H43 := Aside0.mk h43
  have H45 := Aside0.mk h45
  clear hv hs z1 z2 z3 h43 h45
  go_enter Tryd.func11, Tryd.ntmps11
  go_upto_region 7 with (first
    | (go_at_call 23; refine (cutV_yes s HV.out _).mono ?_; rintro e w' ⟨rfl, rfl⟩)
    | (go_at_call 24; first
        | ((with_reducible refine (cut_any 43 (s.extract 1 s.size) Z.out.1 _).mono ?_); rintro e w' ⟨rfl, ⟨nd, rfl⟩⟩; rw [H43.out]; generalize hasC 43 (s.extract 1 s.size) = q1)
        | ((with_reducible refine (cut_any 45 r1 Z.out.2.1 _).mono ?_); rintro e w' ⟨rfl, ⟨nd, rfl⟩⟩; rw [H45.out]; generalize hasC 45 r1 = q2)))
  refine name_world (fun W => PE w W w.heap.size (w.heap.size + 1) (fld v pre bld 0)) ((((HB0.out.drewN _).set 4 (.string bld)).drewN _).set 3 (.string pre)) ?_
  clear HB0
  rintro W1 E1
  have HN := Aside0.mk E1
  clear E1
  go_upto_region 8 with (first
    | (go_at_call 25; (with_reducible refine (split_any 46 r2 Z.out.2.2 _).mono ?_); rintro e w2 ⟨v0, rfl, hr, hb⟩; obtain ⟨A1, c1, e1⟩ := Kd.R_slice hr; subst e1; have R1 := Aside0.mk hr; have HB9 := Aside0.mk (heap_lt' HN.out.v); have HN2 := Aside0.mk (HN.out.below hb); have HL := Aside0.mk (below_size HN.out.b); clear hr hb HN))
  obtain ⟨⟨k0, k1, k2, k3, k4⟩, f0, f1, f2, f3, f4⟩ := HN2.out.rcells
  have HF := Aside0.mk (HN2.out.fill 0 0 0 ⟨#[]⟩ ⟨#[]⟩)
  clear HN2
  go_wp2
  (try simp only [Exit.inBlock, Exit.then])
  exact bodyPost_ret (res11 (r := w.heap.size) (a := 0) (b := 0) (c := 0) (p := ⟨#[]⟩) (q := ⟨#[]⟩) (x := false) HF.out.1 rfl rfl) rfl ⟨rfl, HF.out.2⟩
structure LoopE (w W : World) (gr gv gs base c : Nat) (cs : Array Value) (A : Option Addr) (l : List ByteArray) : Prop where
  e : PE w W gr gv cs
  p : W.heap[gs]? = some (.cells (ptrs gv) 46 (0, 0))
  l : Kd.R Kd.string 9 W base (fun _ => True) (.slice A l.length c) l
  n : gv < gs
  m : gv < base
theorem LoopE.below {w W W' : World} {gr gv gs base c : Nat} {cs : Array Value} {A : Option Addr} {l : List ByteArray} (h : LoopE w W gr gv gs base c cs A l) (hb : Below W.heap.size W W') : LoopE w W' gr gv gs base c cs A l :=
  ⟨h.e.below hb, blk_below h.p hb, Kd.R_below h.l hb, h.n, h.m⟩
theorem LoopE.set {w W : World} {gr gv gs base c : Nat} {v : Nat → Int} {p q : ByteArray} {i : Nat} {A : Option Addr} {l : List ByteArray} (h : LoopE w W gr gv gs base c (fld v p q i) A l) (hi : i < 3) : LoopE w (W.setCell ⟨gv, i, none⟩ (.int .i64 (v i))) gr gv gs base c (fld v p q (i + 1)) A l := by
  have h1 := h.e.set i (.int .i64 (v i))
  rw [fld_set v p q i hi] at h1
  exact ⟨h1, blk_far h.p (p := ⟨gv, i, none⟩) (by have := h.n; simp; omega) _, Kd.R_mono (Kd.R_far (p := ⟨gv, i, none⟩) (Kd.R_bound h.l) (fun k hk => by have := hk.2.1; have := h.m; simp; omega) _) (fun _ _ => trivial), h.n, h.m⟩
set_option maxHeartbeats 8000000 in
set_option maxRecDepth 100000 in
theorem parse_bad (s r1 bld r2 pre : ByteArray) (hs : s.size ≤ 1000000) (hv : hasV s = true) (h43 : cut2 43 (s.extract 1 s.size) = (r1, bld)) (h45 : cut2 45 r1 = (r2, pre)) (hl : (spl 46 r2).length = 3) (v : Nat → Int) (m : Nat) (hm : m < 3) (ho : ∀ i, i < m → atoiO (rdOf ByteArray.empty (spl 46 r2) (i : Int)) = some (v i)) (hn : atoiO (rdOf ByteArray.empty (spl 46 r2) (m : Int)) = none) (w : World) (LW0 : LaidW w) : Calls Tryd.prog 11 #[.string s] w (ParseNo w) := by
  have d1 : (((spl 46 r2).length : Int) != 3) = false := bne_eq_false_iff_eq.2 (by omega)
  have d2 : ((spl 46 r2).length != 3) = false := bne_eq_false_iff_eq.2 hl
  have d3 : ((spl 46 r2).length == 3) = true := beq_iff_eq.2 hl
  have hlen := Aside0.mk hl
  have HO := Aside0.mk ho
  have HM := Aside0.mk hm
  have HNo := Aside0.mk hn
  have LW := Aside0.mk LW0
  clear hl ho hm hn LW0
  have HV := Aside0.mk hv
  have z1 : (s.extract 1 s.size).size ≤ 1000000 := by rw [ByteArray.size_extract]; omega
  have z2 : r1.size ≤ 1000000 := by have := (cut2_size 43 (s.extract 1 s.size)).1; rw [h43] at this; exact Nat.le_trans this z1
  have z3 : r2.size ≤ 1000000 := by have := (cut2_size 45 r1).1; rw [h45] at this; exact Nat.le_trans this z2
  have Z := Aside0.mk (And.intro z1 (And.intro z2 z3))
  have HB0 := Aside0.mk (PE.new w)
  have H43 := Aside0.mk h43
  have H45 := Aside0.mk h45
  clear hv hs z1 z2 z3 h43 h45
  go_enter Tryd.func11, Tryd.ntmps11
  go_upto_region 7 with (first
    | (go_at_call 23; refine (cutV_yes s HV.out _).mono ?_; rintro e w' ⟨rfl, rfl⟩)
    | (go_at_call 24; first
        | ((with_reducible refine (cut_any 43 (s.extract 1 s.size) Z.out.1 _).mono ?_); rintro e w' ⟨rfl, ⟨nd, rfl⟩⟩; rw [H43.out]; generalize hasC 43 (s.extract 1 s.size) = q1)
        | ((with_reducible refine (cut_any 45 r1 Z.out.2.1 _).mono ?_); rintro e w' ⟨rfl, ⟨nd, rfl⟩⟩; rw [H45.out]; generalize hasC 45 r1 = q2)))
  refine name_world (fun W => PE w W w.heap.size (w.heap.size + 1) (fld v pre bld 0)) ((((HB0.out.drewN _).set 4 (.string bld)).drewN _).set 3 (.string pre)) ?_
  clear HB0
  rintro W1 E1
  have HN := Aside0.mk E1
  clear E1
  go_upto_region 8 with (first
    | (go_at_call 25; (with_reducible refine (split_any 46 r2 Z.out.2.2 _).mono ?_); rintro e w2 ⟨v0, rfl, hr, hb⟩; obtain ⟨A1, c1, e1⟩ := Kd.R_slice hr; subst e1; have R1 := Aside0.mk hr; have HB9 := Aside0.mk (heap_lt' HN.out.v); have HN2 := Aside0.mk (HN.out.below hb); have HL := Aside0.mk (below_size HN.out.b); clear hr hb HN))
  have HG := Aside0.mk (show w.heap.size + 1 < w2.heap.size from heap_lt' HN2.out.v)
  have HE0 : Aside0 (LoopE w (w2.alloc (.cells (ptrs (w.heap.size + 1)) 46 (0, 0))) w.heap.size (w.heap.size + 1) w2.heap.size W1.heap.size c1 (fld v pre bld 0) A1 (spl 46 r2)) :=
    ⟨⟨HN2.out.below ((Below.refl _ _).alloc (Nat.le_refl _) _), blk_new w2 _, Kd.R_below R1.out ((Below.refl _ _).alloc (Nat.le_refl _) _), HG.out, HB9.out⟩⟩
  have HX : Aside0 (∀ i : Nat, i < 3 → (rdOf ByteArray.empty (spl 46 r2) (i : Int)).size ≤ 1000000) := ⟨fun i hi => by
    have hlt : i < (spl 46 r2).length := by rw [hlen.out]; exact hi
    unfold rdOf
    rw [Int.toNat_natCast, List.getD_eq_getElem?_getD, List.getElem?_eq_getElem hlt]
    exact Nat.le_trans (spl_sizes 46 r2 _ (List.getElem_mem hlt)) Z.out.2.2⟩
  clear HN2 R1
  go_wp2
  rw [show (#[Value.pointer (some ⟨w.heap.size + 1, 0, none⟩), Value.pointer (some ⟨w.heap.size + 1, 1, none⟩), Value.pointer (some ⟨w.heap.size + 1, 2, none⟩)] : Array Value) = ptrs (w.heap.size + 1) from rfl]
  generalize hgs : w2.heap.size = gs at *
  clear hgs
  go_loopg [45] m (fun kq v45 w' => ∃ i : Nat, v45 = .int .i64 (i : Int) ∧ Aside0 (kq + i = m) ∧ Aside0 (LoopE w w' w.heap.size (w.heap.size + 1) gs W1.heap.size c1 (fld v pre bld i) A1 (spl 46 r2)))
  case atStart => exact ⟨0, rfl, ⟨by omega⟩, HE0⟩
  case round =>
    clear HE0
    obtain ⟨i, rfl, HI, HE⟩ := hrel
    cases gk with
    | zero =>
      have him : i = m := by have := HI.out; omega
      have hi : i < 3 := by rw [him]; exact HM.out
      have hi0 : (0 : Int) ≤ (i : Int) := by omega
      have hi3 : (i : Int) < (3 : Int) := by omega
      have hil : (i : Int) < ((spl 46 r2).length : Int) := by rw [hlen.out]; omega
      have d0 : decide ((i : Int) < 3) = true := decide_eq_true (by omega)
      have d0n : decide (i < 3) = true := decide_eq_true (by omega)
      have hw1 : IntKind.i64.wrap ((i : Int) + 1) = (i : Int) + 1 := by rw [IntKind.wrap_i64]; omega
      obtain ⟨ad, ea, xa⟩ := Kd.at_string (Kd.R_reads' HE.out.l).2.2 (i : Int) (by omega) hil
      rw [Int.toNat_natCast] at xa
      subst ea
      have ka : wr.cell? ⟨gs, i, none⟩ = some (.pointer (some ⟨w.heap.size + 1, i, none⟩)) := (blk_cell HE.out.p i).trans (ptrs_at _ i hi)
      have LWr := Aside0.mk (LW.out.below HE.out.e.b)
      have cn : atoiO (rdOf ByteArray.empty (spl 46 r2) (i : Int)) = none := by rw [him]; exact HNo.out
      replace cn := Aside0.mk cn
      have cx := Aside0.mk (HX.out i hi)
      have hii := Aside0.mk hi
      clear him hi
      generalize rdOf ByteArray.empty (spl 46 r2) (i : Int) = x at *
      go_upto_region 14 with (first
        | (go_at_call 26; (with_reducible refine (atoi_none x cx.out cn.out _ LWr.out).mono ?_); rintro e w3 ⟨⟨n, te, pe, rfl⟩, hb⟩; have HE3 := Aside0.mk (HE.out.below hb); clear hb))
      obtain ⟨⟨k0, k1, k2, k3, k4⟩, f0, f1, f2, f3, f4⟩ := HE3.out.e.rcells
      have HF := Aside0.mk (HE3.out.e.fill 0 0 0 ⟨#[]⟩ ⟨#[]⟩)
      go_wp2
      (try simp only [Exit.inBlock, Exit.then])
      exact bodyPost_ret (res11 (r := w.heap.size) (a := 0) (b := 0) (c := 0) (p := ⟨#[]⟩) (q := ⟨#[]⟩) (x := false) HF.out.1 rfl rfl) rfl ⟨rfl, HF.out.2⟩
    | succ j1 =>
      have hi : i < 3 := by have := HI.out; have := HM.out; omega
      have hi0 : (0 : Int) ≤ (i : Int) := by omega
      have hi3 : (i : Int) < (3 : Int) := by omega
      have hil : (i : Int) < ((spl 46 r2).length : Int) := by rw [hlen.out]; omega
      have d0 : decide ((i : Int) < 3) = true := decide_eq_true (by omega)
      have d0n : decide (i < 3) = true := decide_eq_true (by omega)
      have hw1 : IntKind.i64.wrap ((i : Int) + 1) = (i : Int) + 1 := by rw [IntKind.wrap_i64]; omega
      obtain ⟨ad, ea, xa⟩ := Kd.at_string (Kd.R_reads' HE.out.l).2.2 (i : Int) (by omega) hil
      rw [Int.toNat_natCast] at xa
      subst ea
      have ka : wr.cell? ⟨gs, i, none⟩ = some (.pointer (some ⟨w.heap.size + 1, i, none⟩)) := (blk_cell HE.out.p i).trans (ptrs_at _ i hi)
      have kv : wr.cell? ⟨w.heap.size + 1, i, none⟩ = some (.int .i64 0) := (blk_cell HE.out.e.v i).trans (fld_at v pre bld i hi)
      have cs_ := Aside0.mk (HO.out i (by have := HI.out; omega))
      have cx := Aside0.mk (HX.out i hi)
      have hii := Aside0.mk hi
      clear hi
      generalize rdOf ByteArray.empty (spl 46 r2) (i : Int) = x at *
      go_wp2_with (first
        | (go_at_call 26; (with_reducible refine (atoi_some x (v i) cx.out cs_.out _).mono ?_); rintro e w3 ⟨rfl, hb⟩; have kv3 : w3.cell? ⟨w.heap.size + 1, i, none⟩ = some (.int .i64 0) := pw_cell_below hb kv; have kf3 : w3.frozen? ⟨w.heap.size + 1, i, none⟩ = false := blk_frozen (HE.out.below hb).e.v i; have HE3 := Aside0.mk (HE.out.below hb); clear hb))
      go_roundg j1
      case measure => omega
      case rel => exact ⟨i + 1, by simp, ⟨by have := HI.out; omega⟩, ⟨HE3.out.set hii.out⟩⟩
set_option maxHeartbeats 8000000 in
set_option maxRecDepth 100000 in
theorem parse_ne (s r1 bld r2 pre : ByteArray) (hs : s.size ≤ 1000000) (hv : hasV s = true) (h43 : cut2 43 (s.extract 1 s.size) = (r1, bld)) (h45 : cut2 45 r1 = (r2, pre)) (hl : (spl 46 r2).length = 3) (v : Nat → Int) (txt : ByteArray) (ht : ver_Text.f (v 0) (v 1) (v 2) pre bld = some txt) (ho : ∀ i : Nat, i < 3 → atoiO (rdOf ByteArray.empty (spl 46 r2) (i : Int)) = some (v i)) (hq : txt.toList ≠ s.toList) (w : World) (LW0 : LaidW w) : Calls Tryd.prog 11 #[.string s] w (ParseNo w) := by
  have d1 : (((spl 46 r2).length : Int) != 3) = false := bne_eq_false_iff_eq.2 (by omega)
  have d2 : ((spl 46 r2).length != 3) = false := bne_eq_false_iff_eq.2 hl
  have d3 : ((spl 46 r2).length == 3) = true := beq_iff_eq.2 hl
  have hlen := Aside0.mk hl
  have HO := Aside0.mk ho
  have HT := Aside0.mk ht
  have q0 : (txt.toList == s.toList) = false := beq_eq_false_iff_ne.2 hq
  have q3 : (txt.toList != s.toList) = true := bne_iff_ne.2 hq
  have LW := Aside0.mk LW0
  clear hl ho ht hq LW0
  have HV := Aside0.mk hv
  have z1 : (s.extract 1 s.size).size ≤ 1000000 := by rw [ByteArray.size_extract]; omega
  have z2 : r1.size ≤ 1000000 := by have := (cut2_size 43 (s.extract 1 s.size)).1; rw [h43] at this; exact Nat.le_trans this z1
  have z3 : r2.size ≤ 1000000 := by have := (cut2_size 45 r1).1; rw [h45] at this; exact Nat.le_trans this z2
  have Z := Aside0.mk (And.intro z1 (And.intro z2 z3))
  have HB0 := Aside0.mk (PE.new w)
  have H43 := Aside0.mk h43
  have H45 := Aside0.mk h45
  clear hv hs z1 z2 z3 h43 h45
  go_enter Tryd.func11, Tryd.ntmps11
  go_upto_region 7 with (first
    | (go_at_call 23; refine (cutV_yes s HV.out _).mono ?_; rintro e w' ⟨rfl, rfl⟩)
    | (go_at_call 24; first
        | ((with_reducible refine (cut_any 43 (s.extract 1 s.size) Z.out.1 _).mono ?_); rintro e w' ⟨rfl, ⟨nd, rfl⟩⟩; rw [H43.out]; generalize hasC 43 (s.extract 1 s.size) = q1)
        | ((with_reducible refine (cut_any 45 r1 Z.out.2.1 _).mono ?_); rintro e w' ⟨rfl, ⟨nd, rfl⟩⟩; rw [H45.out]; generalize hasC 45 r1 = q2)))
  refine name_world (fun W => PE w W w.heap.size (w.heap.size + 1) (fld v pre bld 0)) ((((HB0.out.drewN _).set 4 (.string bld)).drewN _).set 3 (.string pre)) ?_
  clear HB0
  rintro W1 E1
  have HN := Aside0.mk E1
  clear E1
  go_upto_region 8 with (first
    | (go_at_call 25; (with_reducible refine (split_any 46 r2 Z.out.2.2 _).mono ?_); rintro e w2 ⟨v0, rfl, hr, hb⟩; obtain ⟨A1, c1, e1⟩ := Kd.R_slice hr; subst e1; have R1 := Aside0.mk hr; have HB9 := Aside0.mk (heap_lt' HN.out.v); have HN2 := Aside0.mk (HN.out.below hb); have HL := Aside0.mk (below_size HN.out.b); clear hr hb HN))
  have HG := Aside0.mk (show w.heap.size + 1 < w2.heap.size from heap_lt' HN2.out.v)
  have HE0 : Aside0 (LoopE w (w2.alloc (.cells (ptrs (w.heap.size + 1)) 46 (0, 0))) w.heap.size (w.heap.size + 1) w2.heap.size W1.heap.size c1 (fld v pre bld 0) A1 (spl 46 r2)) :=
    ⟨⟨HN2.out.below ((Below.refl _ _).alloc (Nat.le_refl _) _), blk_new w2 _, Kd.R_below R1.out ((Below.refl _ _).alloc (Nat.le_refl _) _), HG.out, HB9.out⟩⟩
  have HX : Aside0 (∀ i : Nat, i < 3 → (rdOf ByteArray.empty (spl 46 r2) (i : Int)).size ≤ 1000000) := ⟨fun i hi => by
    have hlt : i < (spl 46 r2).length := by rw [hlen.out]; exact hi
    unfold rdOf
    rw [Int.toNat_natCast, List.getD_eq_getElem?_getD, List.getElem?_eq_getElem hlt]
    exact Nat.le_trans (spl_sizes 46 r2 _ (List.getElem_mem hlt)) Z.out.2.2⟩
  clear HN2 R1
  go_wp2
  rw [show (#[Value.pointer (some ⟨w.heap.size + 1, 0, none⟩), Value.pointer (some ⟨w.heap.size + 1, 1, none⟩), Value.pointer (some ⟨w.heap.size + 1, 2, none⟩)] : Array Value) = ptrs (w.heap.size + 1) from rfl]
  generalize hgs : w2.heap.size = gs at *
  clear hgs
  go_loopg [45] 3 (fun kq v45 w' => ∃ i : Nat, v45 = .int .i64 (i : Int) ∧ Aside0 (kq + i = 3) ∧ Aside0 (LoopE w w' w.heap.size (w.heap.size + 1) gs W1.heap.size c1 (fld v pre bld i) A1 (spl 46 r2)))
  case atStart => exact ⟨0, rfl, ⟨by omega⟩, HE0⟩
  case round =>
    clear HE0
    obtain ⟨i, rfl, HI, HE⟩ := hrel
    cases gk with
    | zero =>
      obtain rfl : i = 3 := by have := HI.out; omega
      have d0 : decide (((3 : Nat) : Int) < 3) = false := by decide
      have hv := HE.out.e.v
      rw [show fld v pre bld 3 = #[.int .i64 (v 0), .int .i64 (v 1), .int .i64 (v 2), .string pre, .string bld] from rfl] at hv
      have g0 : wr.cell? ⟨w.heap.size + 1, 0, none⟩ = some (.int .i64 (v 0)) := blk_cell hv 0
      have g1 : wr.cell? ⟨w.heap.size + 1, 1, none⟩ = some (.int .i64 (v 1)) := blk_cell hv 1
      have g2 : wr.cell? ⟨w.heap.size + 1, 2, none⟩ = some (.int .i64 (v 2)) := blk_cell hv 2
      have g3 : wr.cell? ⟨w.heap.size + 1, 3, none⟩ = some (.string pre) := blk_cell hv 3
      have g4 : wr.cell? ⟨w.heap.size + 1, 4, none⟩ = some (.string bld) := blk_cell hv 4
      replace hv := Aside0.mk hv
      have LWr := Aside0.mk (LW.out.below HE.out.e.b)
      go_upto_region 19 with (first
        | (go_at_call 15; (with_reducible refine (ver_Text.calls (v 0) (v 1) (v 2) pre bld txt _ HT.out LWr.out).mono ?_); rintro e w3 ⟨rfl, hb⟩; have HE3 := Aside0.mk (HE.out.e.below hb); have hv3 := blk_below hv.out hb; have k_ := old_cells' hb; clear hb))
      obtain ⟨⟨k0, k1, k2, k3, k4⟩, f0, f1, f2, f3, f4⟩ := HE3.out.rcells
      have HF := Aside0.mk (HE3.out.fill 0 0 0 ⟨#[]⟩ ⟨#[]⟩)
      clear g0 g1 g2 g3 g4 hv3 k_
      go_wp2
      (try simp only [Exit.inBlock, Exit.then])
      exact bodyPost_ret (res11 (r := w.heap.size) (a := 0) (b := 0) (c := 0) (p := ⟨#[]⟩) (q := ⟨#[]⟩) (x := false) HF.out.1 rfl rfl) rfl ⟨rfl, HF.out.2⟩
    | succ j1 =>
      have hi : i < 3 := by have := HI.out; omega
      have hi0 : (0 : Int) ≤ (i : Int) := by omega
      have hi3 : (i : Int) < (3 : Int) := by omega
      have hil : (i : Int) < ((spl 46 r2).length : Int) := by rw [hlen.out]; omega
      have d0 : decide ((i : Int) < 3) = true := decide_eq_true (by omega)
      have d0n : decide (i < 3) = true := decide_eq_true (by omega)
      have hw1 : IntKind.i64.wrap ((i : Int) + 1) = (i : Int) + 1 := by rw [IntKind.wrap_i64]; omega
      obtain ⟨ad, ea, xa⟩ := Kd.at_string (Kd.R_reads' HE.out.l).2.2 (i : Int) (by omega) hil
      rw [Int.toNat_natCast] at xa
      subst ea
      have ka : wr.cell? ⟨gs, i, none⟩ = some (.pointer (some ⟨w.heap.size + 1, i, none⟩)) := (blk_cell HE.out.p i).trans (ptrs_at _ i hi)
      have kv : wr.cell? ⟨w.heap.size + 1, i, none⟩ = some (.int .i64 0) := (blk_cell HE.out.e.v i).trans (fld_at v pre bld i hi)
      have cs_ := Aside0.mk (HO.out i (by have := HI.out; omega))
      have cx := Aside0.mk (HX.out i hi)
      have hii := Aside0.mk hi
      clear hi
      generalize rdOf ByteArray.empty (spl 46 r2) (i : Int) = x at *
      go_wp2_with (first
        | (go_at_call 26; (with_reducible refine (atoi_some x (v i) cx.out cs_.out _).mono ?_); rintro e w3 ⟨rfl, hb⟩; have kv3 : w3.cell? ⟨w.heap.size + 1, i, none⟩ = some (.int .i64 0) := pw_cell_below hb kv; have kf3 : w3.frozen? ⟨w.heap.size + 1, i, none⟩ = false := blk_frozen (HE.out.below hb).e.v i; have HE3 := Aside0.mk (HE.out.below hb); clear hb))
      go_roundg j1
      case measure => omega
      case rel => exact ⟨i + 1, by simp, ⟨by have := HI.out; omega⟩, ⟨HE3.out.set hii.out⟩⟩
set_option maxHeartbeats 8000000 in
set_option maxRecDepth 100000 in
theorem parse_eq (s r1 bld r2 pre : ByteArray) (hs : s.size ≤ 1000000) (hv : hasV s = true) (h43 : cut2 43 (s.extract 1 s.size) = (r1, bld)) (h45 : cut2 45 r1 = (r2, pre)) (hl : (spl 46 r2).length = 3) (v : Nat → Int) (txt : ByteArray) (ht : ver_Text.f (v 0) (v 1) (v 2) pre bld = some txt) (ho : ∀ i : Nat, i < 3 → atoiO (rdOf ByteArray.empty (spl 46 r2) (i : Int)) = some (v i)) (hq : txt.toList = s.toList) (w : World) (LW0 : LaidW w) : Calls Tryd.prog 11 #[.string s] w fun e w' => e = .returned (.tuple #[.agg #[.int .i64 (v 0), .int .i64 (v 1), .int .i64 (v 2), .string pre, .string bld], .bool true]) ∧ Below w.heap.size w w' := by
  have d1 : (((spl 46 r2).length : Int) != 3) = false := bne_eq_false_iff_eq.2 (by omega)
  have d2 : ((spl 46 r2).length != 3) = false := bne_eq_false_iff_eq.2 hl
  have d3 : ((spl 46 r2).length == 3) = true := beq_iff_eq.2 hl
  have hlen := Aside0.mk hl
  have HO := Aside0.mk ho
  have HT := Aside0.mk ht
  have q0 : (txt.toList == s.toList) = true := beq_iff_eq.2 hq
  have q3 : (txt.toList != s.toList) = false := bne_eq_false_iff_eq.2 hq
  have LW := Aside0.mk LW0
  clear hl ho ht hq LW0
  have HV := Aside0.mk hv
  have z1 : (s.extract 1 s.size).size ≤ 1000000 := by rw [ByteArray.size_extract]; omega
  have z2 : r1.size ≤ 1000000 := by have := (cut2_size 43 (s.extract 1 s.size)).1; rw [h43] at this; exact Nat.le_trans this z1
  have z3 : r2.size ≤ 1000000 := by have := (cut2_size 45 r1).1; rw [h45] at this; exact Nat.le_trans this z2
  have Z := Aside0.mk (And.intro z1 (And.intro z2 z3))
  have HB0 := Aside0.mk (PE.new w)
  have H43 := Aside0.mk h43
  have H45 := Aside0.mk h45
  clear hv hs z1 z2 z3 h43 h45
  go_enter Tryd.func11, Tryd.ntmps11
  go_upto_region 7 with (first
    | (go_at_call 23; refine (cutV_yes s HV.out _).mono ?_; rintro e w' ⟨rfl, rfl⟩)
    | (go_at_call 24; first
        | ((with_reducible refine (cut_any 43 (s.extract 1 s.size) Z.out.1 _).mono ?_); rintro e w' ⟨rfl, ⟨nd, rfl⟩⟩; rw [H43.out]; generalize hasC 43 (s.extract 1 s.size) = q1)
        | ((with_reducible refine (cut_any 45 r1 Z.out.2.1 _).mono ?_); rintro e w' ⟨rfl, ⟨nd, rfl⟩⟩; rw [H45.out]; generalize hasC 45 r1 = q2)))
  refine name_world (fun W => PE w W w.heap.size (w.heap.size + 1) (fld v pre bld 0)) ((((HB0.out.drewN _).set 4 (.string bld)).drewN _).set 3 (.string pre)) ?_
  clear HB0
  rintro W1 E1
  have HN := Aside0.mk E1
  clear E1
  go_upto_region 8 with (first
    | (go_at_call 25; (with_reducible refine (split_any 46 r2 Z.out.2.2 _).mono ?_); rintro e w2 ⟨v0, rfl, hr, hb⟩; obtain ⟨A1, c1, e1⟩ := Kd.R_slice hr; subst e1; have R1 := Aside0.mk hr; have HB9 := Aside0.mk (heap_lt' HN.out.v); have HN2 := Aside0.mk (HN.out.below hb); have HL := Aside0.mk (below_size HN.out.b); clear hr hb HN))
  have HG := Aside0.mk (show w.heap.size + 1 < w2.heap.size from heap_lt' HN2.out.v)
  have HE0 : Aside0 (LoopE w (w2.alloc (.cells (ptrs (w.heap.size + 1)) 46 (0, 0))) w.heap.size (w.heap.size + 1) w2.heap.size W1.heap.size c1 (fld v pre bld 0) A1 (spl 46 r2)) :=
    ⟨⟨HN2.out.below ((Below.refl _ _).alloc (Nat.le_refl _) _), blk_new w2 _, Kd.R_below R1.out ((Below.refl _ _).alloc (Nat.le_refl _) _), HG.out, HB9.out⟩⟩
  have HX : Aside0 (∀ i : Nat, i < 3 → (rdOf ByteArray.empty (spl 46 r2) (i : Int)).size ≤ 1000000) := ⟨fun i hi => by
    have hlt : i < (spl 46 r2).length := by rw [hlen.out]; exact hi
    unfold rdOf
    rw [Int.toNat_natCast, List.getD_eq_getElem?_getD, List.getElem?_eq_getElem hlt]
    exact Nat.le_trans (spl_sizes 46 r2 _ (List.getElem_mem hlt)) Z.out.2.2⟩
  clear HN2 R1
  go_wp2
  rw [show (#[Value.pointer (some ⟨w.heap.size + 1, 0, none⟩), Value.pointer (some ⟨w.heap.size + 1, 1, none⟩), Value.pointer (some ⟨w.heap.size + 1, 2, none⟩)] : Array Value) = ptrs (w.heap.size + 1) from rfl]
  generalize hgs : w2.heap.size = gs at *
  clear hgs
  go_loopg [45] 3 (fun kq v45 w' => ∃ i : Nat, v45 = .int .i64 (i : Int) ∧ Aside0 (kq + i = 3) ∧ Aside0 (LoopE w w' w.heap.size (w.heap.size + 1) gs W1.heap.size c1 (fld v pre bld i) A1 (spl 46 r2)))
  case atStart => exact ⟨0, rfl, ⟨by omega⟩, HE0⟩
  case round =>
    clear HE0
    obtain ⟨i, rfl, HI, HE⟩ := hrel
    cases gk with
    | zero =>
      obtain rfl : i = 3 := by have := HI.out; omega
      have d0 : decide (((3 : Nat) : Int) < 3) = false := by decide
      have hv := HE.out.e.v
      rw [show fld v pre bld 3 = #[.int .i64 (v 0), .int .i64 (v 1), .int .i64 (v 2), .string pre, .string bld] from rfl] at hv
      have g0 : wr.cell? ⟨w.heap.size + 1, 0, none⟩ = some (.int .i64 (v 0)) := blk_cell hv 0
      have g1 : wr.cell? ⟨w.heap.size + 1, 1, none⟩ = some (.int .i64 (v 1)) := blk_cell hv 1
      have g2 : wr.cell? ⟨w.heap.size + 1, 2, none⟩ = some (.int .i64 (v 2)) := blk_cell hv 2
      have g3 : wr.cell? ⟨w.heap.size + 1, 3, none⟩ = some (.string pre) := blk_cell hv 3
      have g4 : wr.cell? ⟨w.heap.size + 1, 4, none⟩ = some (.string bld) := blk_cell hv 4
      replace hv := Aside0.mk hv
      have LWr := Aside0.mk (LW.out.below HE.out.e.b)
      go_upto_region 20 with (first
        | (go_at_call 15; (with_reducible refine (ver_Text.calls (v 0) (v 1) (v 2) pre bld txt _ HT.out LWr.out).mono ?_); rintro e w3 ⟨rfl, hb⟩; have HE3 := Aside0.mk (HE.out.e.below hb); have hv3 := blk_below hv.out hb; have k_ := old_cells' hb; clear hb))
      obtain ⟨⟨k0, k1, k2, k3, k4⟩, f0, f1, f2, f3, f4⟩ := HE3.out.rcells
      have HF := Aside0.mk (HE3.out.fill (v 0) (v 1) (v 2) pre bld)
      clear g0 g1 g2 g3 g4
      have g0 : w3.cell? ⟨w.heap.size + 1, 0, none⟩ = some (.int .i64 (v 0)) := blk_cell hv3 0
      have g1 : w3.cell? ⟨w.heap.size + 1, 1, none⟩ = some (.int .i64 (v 1)) := blk_cell hv3 1
      have g2 : w3.cell? ⟨w.heap.size + 1, 2, none⟩ = some (.int .i64 (v 2)) := blk_cell hv3 2
      have g3 : w3.cell? ⟨w.heap.size + 1, 3, none⟩ = some (.string pre) := blk_cell hv3 3
      have g4 : w3.cell? ⟨w.heap.size + 1, 4, none⟩ = some (.string bld) := blk_cell hv3 4
      clear hv3 k_
      go_wp2
      (try simp only [Exit.inBlock, Exit.then])
      exact bodyPost_ret (res11 (r := w.heap.size) (a := (v 0)) (b := (v 1)) (c := (v 2)) (p := pre) (q := bld) (x := true) HF.out.1 rfl rfl) rfl ⟨rfl, HF.out.2⟩
    | succ j1 =>
      have hi : i < 3 := by have := HI.out; omega
      have hi0 : (0 : Int) ≤ (i : Int) := by omega
      have hi3 : (i : Int) < (3 : Int) := by omega
      have hil : (i : Int) < ((spl 46 r2).length : Int) := by rw [hlen.out]; omega
      have d0 : decide ((i : Int) < 3) = true := decide_eq_true (by omega)
      have d0n : decide (i < 3) = true := decide_eq_true (by omega)
      have hw1 : IntKind.i64.wrap ((i : Int) + 1) = (i : Int) + 1 := by rw [IntKind.wrap_i64]; omega
      obtain ⟨ad, ea, xa⟩ := Kd.at_string (Kd.R_reads' HE.out.l).2.2 (i : Int) (by omega) hil
      rw [Int.toNat_natCast] at xa
      subst ea
      have ka : wr.cell? ⟨gs, i, none⟩ = some (.pointer (some ⟨w.heap.size + 1, i, none⟩)) := (blk_cell HE.out.p i).trans (ptrs_at _ i hi)
      have kv : wr.cell? ⟨w.heap.size + 1, i, none⟩ = some (.int .i64 0) := (blk_cell HE.out.e.v i).trans (fld_at v pre bld i hi)
      have cs_ := Aside0.mk (HO.out i (by have := HI.out; omega))
      have cx := Aside0.mk (HX.out i hi)
      have hii := Aside0.mk hi
      clear hi
      generalize rdOf ByteArray.empty (spl 46 r2) (i : Int) = x at *
      go_wp2_with (first
        | (go_at_call 26; (with_reducible refine (atoi_some x (v i) cx.out cs_.out _).mono ?_); rintro e w3 ⟨rfl, hb⟩; have kv3 : w3.cell? ⟨w.heap.size + 1, i, none⟩ = some (.int .i64 0) := pw_cell_below hb kv; have kf3 : w3.frozen? ⟨w.heap.size + 1, i, none⟩ = false := blk_frozen (HE.out.below hb).e.v i; have HE3 := Aside0.mk (HE.out.below hb); clear hb))
      go_roundg j1
      case measure => omega
      case rel => exact ⟨i + 1, by simp, ⟨by have := HI.out; omega⟩, ⟨HE3.out.set hii.out⟩⟩
def noV : Int × Int × Int × ByteArray × ByteArray × Bool := (0, 0, 0, ⟨#[]⟩, ⟨#[]⟩, false)
def nth (l : List ByteArray) (i : Nat) : ByteArray := rdOf ByteArray.empty l (i : Int)
/-- The answer of three numbers, what stands behind the dash and the plus, and the text itself. -/
def fin3 (s pre bld : ByteArray) : Option Int → Option Int → Option Int → Int × Int × Int × ByteArray × ByteArray × Bool
  | some a, some b, some c => if (textZ a b c pre bld).toList = s.toList then (a, b, c, pre, bld, true) else noV
  | _, _, _ => noV
def parseT (s r2 pre bld : ByteArray) : Int × Int × Int × ByteArray × ByteArray × Bool :=
  if (spl 46 r2).length = 3 then fin3 s pre bld (atoiO (nth (spl 46 r2) 0)) (atoiO (nth (spl 46 r2) 1)) (atoiO (nth (spl 46 r2) 2)) else noV
def parseZ (s : ByteArray) : Int × Int × Int × ByteArray × ByteArray × Bool :=
  if hasV s = true then parseT s (cut2 45 (cut2 43 (s.extract 1 s.size)).1).1 (cut2 45 (cut2 43 (s.extract 1 s.size)).1).2 (cut2 43 (s.extract 1 s.size)).2 else noV
def Told6 (r : Int × Int × Int × ByteArray × ByteArray × Bool) (w : World) (e : Ending) (w' : World) : Prop :=
  e = .returned (.tuple #[.agg #[.int .i64 r.1, .int .i64 r.2.1, .int .i64 r.2.2.1, .string r.2.2.2.1, .string r.2.2.2.2.1], .bool r.2.2.2.2.2]) ∧ Below w.heap.size w w'
theorem told_no (w : World) {e : Ending} {w' : World} (h : ParseNo w e w') : Told6 noV w e w' := h
def v3 (a b c : Int) (i : Nat) : Int := if i = 0 then a else if i = 1 then b else c
theorem parse_any (s : ByteArray) (hs : s.size ≤ 1000000) (w : World) (LW0 : LaidW w) : Calls Tryd.prog 11 #[.string s] w (Told6 (parseZ s) w) := by
  unfold parseZ
  by_cases hv : hasV s = true
  · rw [if_pos hv]
    have z1 : (s.extract 1 s.size).size ≤ 1000000 := by rw [ByteArray.size_extract]; omega
    have zb := Nat.le_trans (cut2_size 43 (s.extract 1 s.size)).2 z1
    have z2 := Nat.le_trans (cut2_size 43 (s.extract 1 s.size)).1 z1
    have zp := Nat.le_trans (cut2_size 45 (cut2 43 (s.extract 1 s.size)).1).2 z2
    generalize h43 : cut2 43 (s.extract 1 s.size) = c1 at *
    obtain ⟨r1, bld⟩ := c1
    simp only at *
    generalize h45 : cut2 45 r1 = c2 at *
    obtain ⟨r2, pre⟩ := c2
    simp only at *
    unfold parseT
    by_cases hl : (spl 46 r2).length = 3
    · rw [if_pos hl]
      have h3 : ∀ i, i < 3 → i = 0 ∨ i = 1 ∨ i = 2 := by omega
      cases e0 : atoiO (nth (spl 46 r2) 0) with
      | none => exact (parse_bad s r1 bld r2 pre hs hv h43 h45 hl (fun _ => 0) 0 (by omega) (fun i hi => by omega) e0 w LW0).mono fun e w' h => told_no w h
      | some a =>
        cases e1 : atoiO (nth (spl 46 r2) 1) with
        | none =>
          have ho1 : ∀ i : Nat, i < 1 → atoiO (rdOf ByteArray.empty (spl 46 r2) (i : Int)) = some a := fun i hi => by
            have : i = 0 := by omega
            rw [this]; exact e0
          exact (parse_bad s r1 bld r2 pre hs hv h43 h45 hl (fun _ => a) 1 (by omega) ho1 e1 w LW0).mono fun e w' h => told_no w h
        | some b =>
          cases e2 : atoiO (nth (spl 46 r2) 2) with
          | none => exact (parse_bad s r1 bld r2 pre hs hv h43 h45 hl (v3 a b 0) 2 (by omega) (fun i hi => by
              rcases h3 i (by omega) with rfl | rfl | rfl
              · exact e0
              · exact e1
              · omega) e2 w LW0).mono fun e w' h => told_no w h
          | some c =>
            have ho : ∀ i : Nat, i < 3 → atoiO (rdOf ByteArray.empty (spl 46 r2) (i : Int)) = some (v3 a b c i) := fun i hi => by
              rcases h3 i hi with rfl | rfl | rfl
              · exact e0
              · exact e1
              · exact e2
            have ht : ver_Text.f (v3 a b c 0) (v3 a b c 1) (v3 a b c 2) pre bld = some (textZ a b c pre bld) := text_f a b c pre bld zp zb
            have hf : fin3 s pre bld (some a) (some b) (some c) = if (textZ a b c pre bld).toList = s.toList then (a, b, c, pre, bld, true) else noV := rfl
            rw [hf]
            by_cases hq : (textZ a b c pre bld).toList = s.toList
            · rw [if_pos hq]
              exact parse_eq s r1 bld r2 pre hs hv h43 h45 hl (v3 a b c) _ ht ho hq w LW0
            · rw [if_neg hq]
              exact (parse_ne s r1 bld r2 pre hs hv h43 h45 hl (v3 a b c) _ ht ho hq w LW0).mono fun e w' h => told_no w h
    · rw [if_neg hl]
      exact (parse_len s r1 bld r2 pre hs hv h43 h45 hl w).mono fun e w' h => told_no w h
  · rw [if_neg hv]
    exact (parse_noV s (Bool.eq_false_iff.2 hv) w).mono fun e w' h => told_no w h
def ver_Parse.f (s : ByteArray) : Option (Int × Int × Int × ByteArray × ByteArray × Bool) := if s.size ≤ 1000000 then some (parseZ s) else none
theorem ver_Parse.calls (a0 : ByteArray) (r1 r2 r3 : Int) (r4 r5 : ByteArray) (r6 : Bool) (w : World) (h : ver_Parse.f a0 = some (r1, r2, r3, r4, r5, r6)) (LW0 : LaidW w) :
    Calls Tryd.prog 11 #[.string a0] w fun e w' => e = .returned (.tuple #[.agg #[.int .i64 r1, .int .i64 r2, .int .i64 r3, .string r4, .string r5], .bool r6]) ∧ Below w.heap.size w w' := by
  unfold ver_Parse.f at h
  by_cases c : a0.size ≤ 1000000
  · rw [if_pos c] at h
    have h2 := parse_any a0 c w LW0
    rw [Option.some.inj h] at h2
    exact h2
  · rw [if_neg c] at h; cases h
end Go.Proofs.YthoiepkejhhcoaaDoor.P
