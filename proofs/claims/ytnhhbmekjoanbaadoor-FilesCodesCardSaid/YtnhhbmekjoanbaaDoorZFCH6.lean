/- files: slices.Delete at files of one's own. -/
import Derived.Test.YtnhhbmekjoanbaaDoorZFCH5
import Derived.Shelf.RegionOpenPlain
import Derived.Outline
import Derived.Sort.AtCall
import Derived.Test.YtnhhbmekjoanbaaDoorZFCH3
import Derived.Test.YtnhhbmekjoanbaaDoorZFCH1
import Derived.Test.YtnhhbmekjoanbaaDoorZFCM4
import Derived.Test.YtnhhbmekjoanbaaDoorZFCH0
import Derived.Shelf.SlSortCmp.NoneTotal
import Derived.Ground.SlsfProg
import Derived.Laws.Externs
import Derived.Lib.SliceRun
import Derived.Lib.Walk
import Derived.Sort.OwnSorted
import Derived.Test.YtnhhbmekjoanbaaDoorZFCXRange2
import Derived.RangeFuncBox
namespace Go.Proofs.YtnhhbmekjoanbaaDoor.P
open Go Go.RowKit Go.Proofs.YtnhhbmekjoanbaaDoorW.PrintWords Go.Proofs.YtnhhbmekjoanbaaDoorW.PrintLast Go.Proofs.YtnhhbmekjoanbaaDoorW.PrintMore
set_option linter.unusedVariables false
set_option linter.unusedSimpArgs false
theorem OwnF.drew {w : World} {base : Nat} {v : Value} {xs : List S49} (h : OwnF w base v xs) : OwnF w.drew base v xs := h
theorem zeros_file : (Builtin.zeroCells (Value.agg #[.string ⟨#[]⟩, .string ⟨#[]⟩]).cells 1).toList = [.string ⟨#[]⟩, .string ⟨#[]⟩] := by kernel_rfl
set_option maxHeartbeats 4000000 in
set_option maxRecDepth 100000 in
theorem delete_calls (g c i : Nat) (xs : List S49) (W : World) (base : Nat) (HO : OwnF W base (.slice (some ⟨g, 0, none⟩) xs.length c) xs) (hi : i < xs.length) (hb : base ≤ W.heap.size) :
    Calls Tryd.prog 55 #[.slice (some ⟨g, 0, none⟩) xs.length c, .int .i64 (i : Int), .int .i64 ((i : Int) + 1)] W fun e w' => e = .returned (.slice (some ⟨g, 0, none⟩) (xs.length - 1) c) ∧ OwnF w' base (.slice (some ⟨g, 0, none⟩) (xs.length - 1) c) (xs.eraseIdx i) ∧ W.grownBy w' (some g) := by
  obtain ⟨_, hbg, cur, hh, hn, hc, hs, ht⟩ := HO.open
  obtain ⟨i0, hi0, hz⟩ := Option.map_eq_some_iff.1 info49
  have hsz : i0.size = 2 := (Prod.mk.inj (Prod.mk.inj hz).2).1
  have hlen : (xs.eraseIdx i).length = xs.length - 1 := by rw [List.length_eraseIdx_of_lt hi]
  obtain ⟨A, hA⟩ : ∃ A, A = if c = i + 1 then some ⟨g, 0, none⟩ else (some (⟨g, 0, none⟩ : Addr)).map (·.add ((i + 1) * 2)) := ⟨_, rfl⟩
  obtain ⟨W1, hr, h1, h2⟩ := Kd.R_delete_run (P := Tryd.prog) k49 (W := W.drew) base 22 22 49 i0 Tryd.underlying22 hi0 hsz (Kd.R_drew HO.to) hi hA (c - (i + 1))
  have hO1 := OwnF.of h1
  obtain ⟨-, -, cur1, hh1, -, -, hs1, -⟩ := hO1.open
  have hcl : ∀ ty, (Builtin.clear_ #[22] ty #[.slice (some ⟨g, (xs.length - 1) * 2, none⟩) 1 (c - (xs.length - 1))]).run Tryd.prog W1 = .ok (.tuple #[]) (W1.setCells g ((xs.length - 1) * 2) [.string ⟨#[]⟩, .string ⟨#[]⟩]) := fun ty =>
    run_clear_cellsK W1 _ _ ty _ Tryd.underlying22 Tryd.zeroValue49 g _ _ _ (by omega) _ zeros_file (fun j hj => by simp only [List.length_cons, List.length_nil] at hj; rw [cell_of_row W1 g _ cur1 _ (0, 0) hh1, Array.getElem?_eq_getElem (by rw [hs1]; omega)]; rfl) (fun j _ => blk_frozen hh1 _) (fun v hv => by simp at hv; subst hv; rfl)
  have hlast := hO1.past (o := (xs.length - 1) * 2) [.string ⟨#[]⟩, .string ⟨#[]⟩] (by rw [hlen]; exact Nat.le_refl _) (by simp only [List.length_cons, List.length_nil]; omega)
  have hgr := grown_setCells W1 g ((xs.length - 1) * 2) [.string ⟨#[]⟩, .string ⟨#[]⟩]
  have HL := Aside0.mk hlast
  have HG := Aside0.mk (show W.grownBy (W1.setCells g ((xs.length - 1) * 2) [.string ⟨#[]⟩, .string ⟨#[]⟩]) (some g) from ⟨hgr.os.trans h2.os, hgr.tape.trans h2.tape, hgr.output.trans h2.output, Nat.le_trans h2.size hgr.size, fun k hk hne => (hgr.block k (Nat.lt_of_lt_of_le hk h2.size) hne).trans (h2.block k hk hne)⟩)
  have HR := Aside0.mk hr
  generalize hw2 : W1.setCells g ((xs.length - 1) * 2) [.string ⟨#[]⟩, .string ⟨#[]⟩] = W2 at *
  clear hw2 hgr hlast hO1 hh1 hs1 h1 h2 hr hi0 hz hsz HO hh hs ht hlen hbg
  have p0 : (0 : Int) ≤ (i : Int) := by omega
  have p1 : (i : Int) ≤ (i : Int) + 1 := by omega
  have p2 : (i : Int) + 1 ≤ (xs.length : Int) := by omega
  have p3 : (xs.length : Int) ≤ (c : Int) := by omega
  have p4 : (0 : Int) ≤ (i : Int) + 1 := by omega
  have t4 : ((i : Int) + 1).toNat = i + 1 := by omega
  have q1 : ¬ ((i : Int) = (i : Int) + 1) := by omega
  have p5 : i ≤ c := by omega
  have p6 : i + 1 ≤ c := by omega
  have hA1 : (if c = i + 1 then (some ⟨g, 0, none⟩ : Option Addr) else some ⟨g, (i + 1) * 2, none⟩) = A := by rw [hA, Option.map_some, Addr.add_lit, Nat.zero_add]
  clear hA
  have mixed : Tryd.prog.follows .mixedOrders = true := by kernel_rfl
  have hu := Tryd.underlying49
  go_enter Tryd.func55, Tryd.ntmps55
  go_wp2_with fail
  go_region_law_o (refine step_append_runJ rfl (.tmp 22) (.tmp 25) 22 22 rfl (.slice (some ⟨g, 0, none⟩) i c) (.slice A (xs.length - (i + 1)) (c - (i + 1))) (by simp [Act.eval, Act.put]) (by simp [Act.eval, Act.put]) HR.out ?_)
  have q2 : xs.length - (xs.length - 1) = 1 := by omega
  have q3 : ¬ (c = xs.length - 1) := by omega
  have q4 : xs.length - 1 ≤ xs.length := by omega
  go_wp2
  go_ret
  exact ⟨rfl, HL.out, HG.out⟩
end Go.Proofs.YtnhhbmekjoanbaaDoor.P
namespace Go.Proofs.YtnhhbmekjoanbaaDoor.P
open Go.RowKit Go.Proofs.YtnhhbmekjoanbaaDoorW.PrintWords Go.Proofs.YtnhhbmekjoanbaaDoorW.PrintLast Go.Proofs.YtnhhbmekjoanbaaDoorW.PrintMore
attribute [local go_sem] max2_int min2_int max_two min_two max_three min_three max_four min_four
set_option linter.unusedVariables false
set_option linter.unusedSimpArgs false
theorem u8_div (n : Nat) : ((n : Int) / 256 % 256) = ((n / 256).toUInt8.toNat : Int) := by
  rw [← u8_mod]
  omega
theorem i64_and255 (n : Int) : bits .and .i64 n 255 = n % 256 := by
  have h255 : (BitVec.ofInt 64 255).toNat = 2 ^ 8 - 1 := by decide
  have key : (BitVec.ofInt 64 n &&& BitVec.ofInt 64 255).toNat = (n % ((2 ^ 64 : Nat) : Int)).toNat % 2 ^ 8 := by
    rw [BitVec.toNat_and, BitVec.toNat_ofInt, h255, Nat.and_two_pow_sub_one_eq_mod]
  show IntKind.i64.wrap ((BitVec.ofInt 64 n &&& BitVec.ofInt 64 255).toNat : Nat) = n % 256
  rw [key, IntKind.wrap_i64]
  omega
theorem u8_and255 (n : Nat) : (bits .and .i64 (n : Int) 255 % 256) = ((n % 256).toUInt8.toNat : Int) := by
  rw [← u8_mod, i64_and255]
  omega
/-- What is wrong with an op. -/
def checkB (o : S45) : Int :=
  if pathB o.f1 = true then (if o.f0 = true ∧ o.f2.toList.isEmpty = false then 1 else if o.f2.size > 4096 then 2 else 0) else 6
set_option maxHeartbeats 4000000 in
set_option maxRecDepth 100000 in
theorem check_calls (o : S45) (w : World) :
    Calls Tryd.prog 44 #[.agg #[.bool o.f0, .string o.f1, .string o.f2]] w fun e w' => e = .returned (.int .i64 (checkB o)) ∧ Below w.heap.size w w' := by
  have hu := Tryd.underlying45
  have hA := Aside0.mk (blk_new w (.cells #[.bool o.f0, .string o.f1, .string o.f2] 45 (0, 0)))
  have hB := Aside0.mk ((Below.refl w.heap.size w).alloc (Nat.le_refl _) (.cells #[.bool o.f0, .string o.f1, .string o.f2] 45 (0, 0)))
  have c1 : (w.alloc (.cells #[.bool o.f0, .string o.f1, .string o.f2] 45 (0, 0))).cell? ⟨w.heap.size, 1, none⟩ = some (.string o.f1) := (blk_cell hA.out 1).trans rfl
  unfold checkB
  by_cases h1 : pathB o.f1 = true
  · rw [if_pos h1]
    have HP := Aside0.mk (show files_Path.f o.f1 = some true from congrArg some h1)
    by_cases h0 : o.f0 = true
    · by_cases h3 : o.f2.toList.isEmpty = false
      · rw [if_pos ⟨h0, h3⟩]
        rw [h0] at hA hB c1 ⊢
        go_enter Tryd.func44, Tryd.ntmps44
        go_wp2_with (go_at_call 14; refine (files_Path.calls _ _ _ HP.out).mono ?_; rintro e w2 ⟨rfl, hb⟩; have HB := Aside0.mk (below_step hB.out hb); have HK := Aside0.mk (blk_below hA.out hb); clear hb; have d0 : w2.cell? ⟨w.heap.size, 0, none⟩ = some (.bool true) := (blk_cell HK.out 0).trans rfl; have d2 : w2.cell? ⟨w.heap.size, 2, none⟩ = some (.string o.f2) := (blk_cell HK.out 2).trans rfl)
        go_ret
        exact ⟨rfl, HB.out⟩
      · rw [if_neg (fun c => h3 c.2)]
        rw [h0] at hA hB c1 ⊢
        have h3' : o.f2.toList.isEmpty = true := by simpa only [Bool.not_eq_false] using h3
        clear h3
        by_cases h4 : o.f2.size > 4096
        · rw [if_pos h4]
          have h5 : decide (4096 < (o.f2.size : Int)) = true := decide_eq_true (by omega)
          have h6 : decide (4096 < o.f2.size) = true := decide_eq_true h4
          go_enter Tryd.func44, Tryd.ntmps44
          go_wp2_with (go_at_call 14; refine (files_Path.calls _ _ _ HP.out).mono ?_; rintro e w2 ⟨rfl, hb⟩; have HB := Aside0.mk (below_step hB.out hb); have HK := Aside0.mk (blk_below hA.out hb); clear hb; have d0 : w2.cell? ⟨w.heap.size, 0, none⟩ = some (.bool true) := (blk_cell HK.out 0).trans rfl; have d2 : w2.cell? ⟨w.heap.size, 2, none⟩ = some (.string o.f2) := (blk_cell HK.out 2).trans rfl)
          go_ret
          exact ⟨rfl, HB.out⟩
        · rw [if_neg h4]
          have h5 : decide (4096 < (o.f2.size : Int)) = false := decide_eq_false (by omega)
          have h6 : decide (4096 < o.f2.size) = false := decide_eq_false h4
          go_enter Tryd.func44, Tryd.ntmps44
          go_wp2_with (go_at_call 14; refine (files_Path.calls _ _ _ HP.out).mono ?_; rintro e w2 ⟨rfl, hb⟩; have HB := Aside0.mk (below_step hB.out hb); have HK := Aside0.mk (blk_below hA.out hb); clear hb; have d0 : w2.cell? ⟨w.heap.size, 0, none⟩ = some (.bool true) := (blk_cell HK.out 0).trans rfl; have d2 : w2.cell? ⟨w.heap.size, 2, none⟩ = some (.string o.f2) := (blk_cell HK.out 2).trans rfl)
          go_ret
          exact ⟨rfl, HB.out⟩
    · rw [if_neg (fun c => h0 c.1)]
      replace h0 : o.f0 = false := by simpa using h0
      rw [h0] at hA hB c1 ⊢
      by_cases h4 : o.f2.size > 4096
      · rw [if_pos h4]
        have h5 : decide (4096 < (o.f2.size : Int)) = true := decide_eq_true (by omega)
        have h6 : decide (4096 < o.f2.size) = true := decide_eq_true h4
        go_enter Tryd.func44, Tryd.ntmps44
        go_wp2_with (go_at_call 14; refine (files_Path.calls _ _ _ HP.out).mono ?_; rintro e w2 ⟨rfl, hb⟩; have HB := Aside0.mk (below_step hB.out hb); have HK := Aside0.mk (blk_below hA.out hb); clear hb; have d0 : w2.cell? ⟨w.heap.size, 0, none⟩ = some (.bool false) := (blk_cell HK.out 0).trans rfl; have d2 : w2.cell? ⟨w.heap.size, 2, none⟩ = some (.string o.f2) := (blk_cell HK.out 2).trans rfl)
        go_ret
        exact ⟨rfl, HB.out⟩
      · rw [if_neg h4]
        have h5 : decide (4096 < (o.f2.size : Int)) = false := decide_eq_false (by omega)
        have h6 : decide (4096 < o.f2.size) = false := decide_eq_false h4
        go_enter Tryd.func44, Tryd.ntmps44
        go_wp2_with (go_at_call 14; refine (files_Path.calls _ _ _ HP.out).mono ?_; rintro e w2 ⟨rfl, hb⟩; have HB := Aside0.mk (below_step hB.out hb); have HK := Aside0.mk (blk_below hA.out hb); clear hb; have d0 : w2.cell? ⟨w.heap.size, 0, none⟩ = some (.bool false) := (blk_cell HK.out 0).trans rfl; have d2 : w2.cell? ⟨w.heap.size, 2, none⟩ = some (.string o.f2) := (blk_cell HK.out 2).trans rfl)
        go_ret
        exact ⟨rfl, HB.out⟩
  · rw [if_neg h1]
    have HP := Aside0.mk (show files_Path.f o.f1 = some false from congrArg some (by simpa using h1))
    go_enter Tryd.func44, Tryd.ntmps44
    go_wp2_with (go_at_call 14; refine (files_Path.calls _ _ _ HP.out).mono ?_; rintro e w2 ⟨rfl, hb⟩; have HB := Aside0.mk (below_step hB.out hb); have HK := Aside0.mk (blk_below hA.out hb); clear hb)
    go_ret
    exact ⟨rfl, HB.out⟩
/-- The bytes of an op. -/
def opB (o : S45) : ByteArray :=
  if o.f0 = true then ⟨#[1, o.f1.size.toUInt8]⟩ ++ o.f1 else ⟨#[0, o.f1.size.toUInt8]⟩ ++ o.f1 ++ ⟨#[(o.f2.size / 256).toUInt8, (o.f2.size % 256).toUInt8]⟩ ++ o.f2
def encB : ByteArray → List S45 → ByteArray × Int
  | t, [] => if t.size > 4096 then (⟨#[]⟩, 2) else (t, 0)
  | t, o :: r => if checkB o = 0 then encB (t ++ opB o) r else (⟨#[]⟩, checkB o)
theorem sz2 (a b : UInt8) : (⟨#[a, b]⟩ : ByteArray).size = 2 := rfl
theorem opB_size (o : S45) (h : checkB o = 0) : (opB o).size ≤ 5000 ∧ o.f1.size ≤ 60 ∧ o.f2.size ≤ 4096 := by
  unfold checkB at h
  split at h
  · rename_i hp
    have h1 : o.f1.size ≤ 60 := by
      unfold pathB at hp
      simp only [Bool.and_eq_true, decide_eq_true_eq] at hp
      omega
    split at h
    · cases h
    · split at h
      · cases h
      · refine ⟨?_, h1, by omega⟩
        unfold opB
        split
        · simp only [ByteArray.size_append, sz2]; omega
        · simp only [ByteArray.size_append, sz2]; omega
  · cases h
theorem rdO_drop {l : List S45} {i : Nat} {x : S45} {r : List S45} (h : l.drop i = x :: r) : rd_T45 l (i : Int) = x ∧ i < l.length ∧ l.drop (i + 1) = r := by
  have hi : i < l.length := by
    apply Nat.lt_of_not_le
    intro c
    rw [List.drop_eq_nil_iff.2 c] at h; cases h
  rw [List.drop_eq_getElem_cons hi] at h
  have h1 := (List.cons.inj h).1
  have h2 := (List.cons.inj h).2
  refine ⟨?_, hi, h2⟩
  unfold rd_T45
  rw [Int.toNat_natCast, List.getD_eq_getElem?_getD, List.getElem?_eq_getElem hi]
  exact h1
def files_Encode.f (l : List S45) : Option (ByteArray × Int) := if l.length ≤ 100000 then some (encB ⟨#[]⟩ l) else none
set_option maxHeartbeats 8000000 in
set_option maxRecDepth 100000 in
theorem files_Encode.calls (A0 : Option Addr) (c0 : Nat) (l0 : List S45) (r1 : ByteArray) (r2 : Int) (w : World) (hr0 : Kd.C k45 w A0 l0.length l0) (hc0 : l0.length ≤ c0) (h : files_Encode.f l0 = some (r1, r2)) :
    Calls Tryd.prog 26 #[.slice A0 l0.length c0] w fun e w' => e = .returned (.tuple #[.string r1, .int .i64 r2]) ∧ Below w.heap.size w w' := by
  unfold files_Encode.f at h
  split at h
  case isFalse => cases h
  rename_i hlen
  have hg := Aside0.mk (Option.some.inj h)
  clear h
  have HL := Aside0.mk hlen
  clear hlen
  have H0 := Aside0.mk hr0
  have G0 := Aside0.mk hc0
  have HN := Aside0.mk hr0.2.1
  have HD := Aside0.mk (BldS.new w w (Below.refl _ w))
  have hu := Tryd.underlying45
  clear hr0 hc0
  go_enter Tryd.func26, Tryd.ntmps26
  go_wp2_with (fail)
  go_loopg [10] l0.length (fun kq v10 W => ∃ (i : Nat) (t : ByteArray), v10 = .int .i64 (i : Int) ∧ Aside0 (kq + i = l0.length) ∧ Aside0 (encB t (l0.drop i) = (r1, r2)) ∧ Aside0 (t.size ≤ i * 5000) ∧ Aside0 (BldS w w.heap.size t W))
  case atStart => exact ⟨0, ⟨#[]⟩, rfl, ⟨by omega⟩, ⟨hg.out⟩, ⟨by decide⟩, HD⟩
  case round =>
    clear HD
    obtain ⟨i, t, rfl, HI, HX, HT, HB⟩ := hrel
    cases gk with
    | zero =>
      have ei : i = l0.length := by have := HI.out; omega
      subst ei
      have hx := HX.out
      rw [List.drop_length, encB] at hx
      clear HX
      have CL := Aside0.mk (HB.out.len)
      have CS := Aside0.mk (HB.out.string)
      by_cases h4 : t.size > 4096
      · rw [if_pos h4] at hx
        obtain ⟨rfl, rfl⟩ := Prod.mk.inj hx
        have h5 : decide (4096 < (t.size : Int)) = true := decide_eq_true (by omega)
        have h6 : decide (4096 < t.size) = true := decide_eq_true h4
        go_wp2_with (go_at_call 47; refine CL.out.mono ?_; rintro e w2 ⟨rfl, rfl⟩)
        go_ret2
        exact ⟨rfl, HB.out.2⟩
      · rw [if_neg h4] at hx
        obtain ⟨rfl, rfl⟩ := Prod.mk.inj hx
        have h5 : decide (4096 < (t.size : Int)) = false := decide_eq_false (by omega)
        have h6 : decide (4096 < t.size) = false := decide_eq_false h4
        go_wp2_with (first | (go_at_call 47; refine CL.out.mono ?_; rintro e w2 ⟨rfl, rfl⟩) | (go_at_call 48; refine CS.out.mono ?_; rintro e w2 ⟨rfl, HW⟩))
        go_ret2
        exact ⟨rfl, HW.out⟩
    | succ k1 =>
      cases hl : l0.drop i with
      | nil =>
        have := List.drop_eq_nil_iff.1 hl
        have := HI.out
        omega
      | cons x r =>
        obtain ⟨hx1, hi, hr⟩ := rdO_drop hl
        have hx := HX.out
        rw [hl, encB] at hx
        clear HX
        obtain ⟨ad, e1, hy0, hy1, hy2⟩ := at_T45 (Kd.C_below H0.out HB.out.2) (i : Int) (by omega) (by omega)
        subst e1
        rw [hx1, Int.toNat_natCast] at hy0 hy1 hy2
        have p1 : (i : Int) < (l0.length : Int) := by omega
        have p0 : (0 : Int) ≤ (i : Int) := by omega
        have n0 : decide ((i : Int) < (l0.length : Int)) = true := decide_eq_true p1
        have n1 : decide (i < l0.length) = true := decide_eq_true hi
        have HLI := Aside0.mk hl
        have HRI := Aside0.mk hr
        clear hl hr hx1 hi
        obtain ⟨x0, x1, x2⟩ := x
        dsimp only at hy0 hy1 hy2
        have CC := Aside0.mk (check_calls ⟨x0, x1, x2⟩)
        by_cases hc : checkB ⟨x0, x1, x2⟩ = 0
        · rw [if_pos hc] at hx
          rw [hc] at CC
          obtain ⟨hs0, hs1, hs2⟩ := opB_size _ hc
          dsimp only at hs0 hs1 hs2
          unfold opB at hx hs0
          dsimp only at hx hs0
          have HS1 := Aside0.mk hs1
          have HLI2 := Aside0.mk (show i ≤ 100000 by have := HL.out; have := HI.out; omega)
          have HS2 := Aside0.mk hs2
          clear hs1 hs2
          cases x0
          · rw [if_neg (by decide)] at hx hs0
            have HX := Aside0.mk hx
            have HS0 := Aside0.mk hs0
            clear hx hs0 hc
            go_upto_region 13 with (first
              | (refine box_lay 6 rfl rfl 45 rfl #[.bool false, .string ⟨#[]⟩, .string ⟨#[]⟩] (by kernel_rfl) ?_; intro g2 HG w2 HK HW; have HGB := Aside0.mk (show g2 ≠ w.heap.size from fun c => by have := HB.out.lt; have := HG.out; omega))
              | (refine box_put rfl rfl 45 _ _ rfl g2 _ #[.bool false, .string x1, .string x2] rfl rfl HK.out rfl rfl (by kernel_rfl) ?_; intro w3 HK3 HW3 HO3 HS3; have HB3 := Aside0.mk (HB.out.step (HW.out.trans (HW3.out.mono (by have := HG.out; omega)))); have d0 : w3.cell? ⟨g2, 0, none⟩ = some (.bool false) := (blk_cell HK3.out 0).trans rfl; have d1 : w3.cell? ⟨g2, 1, none⟩ = some (.string x1) := (blk_cell HK3.out 1).trans rfl; have d2 : w3.cell? ⟨g2, 2, none⟩ = some (.string x2) := (blk_cell HK3.out 2).trans rfl)
              | (go_at_call 44; refine (CC.out _).mono ?_; rintro e w4 ⟨rfl, hb4⟩; have HB4 := Aside0.mk (HB3.out.step hb4); have HK4 := Aside0.mk (blk_below HK3.out hb4); clear hb4; have f0 : w4.cell? ⟨g2, 0, none⟩ = some (.bool false) := (blk_cell HK4.out 0).trans rfl; have f1 : w4.cell? ⟨g2, 1, none⟩ = some (.string x1) := (blk_cell HK4.out 1).trans rfl)
              | (go_at_call 45; refine (HB4.out.duo _ _ 0 x1.size.toUInt8 rfl (u8_mod _) (by have := HT.out; have := HLI2.out; omega)).mono ?_; rintro e w5 ⟨⟨n5, rfl⟩, HB5, HO5⟩; have HK5 := Aside0.mk (HO5.out g2 _ HK4.out HGB.out (fun _ _ c => by simp at c)); have f5 : w5.cell? ⟨g2, 1, none⟩ = some (.string x1) := (blk_cell HK5.out 1).trans rfl)
              | (go_at_call 46; refine (HB5.out.text x1 (by rw [ByteArray.size_append, sz2]; have := HT.out; have := HLI2.out; have := HS1.out; omega)).mono ?_; rintro e w6 ⟨⟨n6, rfl⟩, HB6, HO6⟩; have HK6 := Aside0.mk (OthersKept.keep HO6.out g2 _ HK5.out HGB.out (fun _ _ c => by simp at c)); have f6 : w6.cell? ⟨g2, 2, none⟩ = some (.string x2) := (blk_cell HK6.out 2).trans rfl))
            go_wp2_with (first
              | (go_at_call 45; refine (HB6.out.duo _ _ (x2.size / 256).toUInt8 (x2.size % 256).toUInt8 (u8_div _) (u8_and255 _) (by simp only [ByteArray.size_append, sz2]; have := HT.out; have := HLI2.out; have := HS1.out; omega)).mono ?_; rintro e w7 ⟨⟨n7, rfl⟩, HB7, HO7⟩; have HK7 := Aside0.mk (HO7.out g2 _ HK6.out HGB.out (fun _ _ c => by simp at c)); have f7 : w7.cell? ⟨g2, 2, none⟩ = some (.string x2) := (blk_cell HK7.out 2).trans rfl)
              | (go_at_call 46; refine (HB7.out.text x2 (by simp only [ByteArray.size_append, sz2]; have := HT.out; have := HLI2.out; have := HS1.out; have := HS2.out; omega)).mono ?_; rintro e w8 ⟨⟨n8, rfl⟩, HB8, HO8⟩))
            go_roundg k1
            case measure => omega
            case rel => exact ⟨i + 1, _, by have := HLI2.out; rw [IntWalk.wrap64_in _ (by omega)]; rfl, ⟨by have := HI.out; omega⟩, ⟨by rw [HRI.out]; have hx := HX.out; simp only [← ByteArray.append_assoc] at hx; exact hx⟩, ⟨by have h0 := HS0.out; simp only [ByteArray.size_append, sz2] at h0 ⊢; have := HT.out; omega⟩, HB8⟩
          · rw [if_pos rfl] at hx hs0
            have HX := Aside0.mk hx
            have HS0 := Aside0.mk hs0
            clear hx hs0 hc
            go_wp2_with (first
              | (refine box_lay 6 rfl rfl 45 rfl #[.bool false, .string ⟨#[]⟩, .string ⟨#[]⟩] (by kernel_rfl) ?_; intro g2 HG w2 HK HW; have HGB := Aside0.mk (show g2 ≠ w.heap.size from fun c => by have := HB.out.lt; have := HG.out; omega))
              | (refine box_put rfl rfl 45 _ _ rfl g2 _ #[.bool true, .string x1, .string x2] rfl rfl HK.out rfl rfl (by kernel_rfl) ?_; intro w3 HK3 HW3 HO3 HS3; have HB3 := Aside0.mk (HB.out.step (HW.out.trans (HW3.out.mono (by have := HG.out; omega)))); have d0 : w3.cell? ⟨g2, 0, none⟩ = some (.bool true) := (blk_cell HK3.out 0).trans rfl; have d1 : w3.cell? ⟨g2, 1, none⟩ = some (.string x1) := (blk_cell HK3.out 1).trans rfl; have d2 : w3.cell? ⟨g2, 2, none⟩ = some (.string x2) := (blk_cell HK3.out 2).trans rfl)
              | (go_at_call 44; refine (CC.out _).mono ?_; rintro e w4 ⟨rfl, hb4⟩; have HB4 := Aside0.mk (HB3.out.step hb4); have HK4 := Aside0.mk (blk_below HK3.out hb4); clear hb4; have f0 : w4.cell? ⟨g2, 0, none⟩ = some (.bool true) := (blk_cell HK4.out 0).trans rfl; have f1 : w4.cell? ⟨g2, 1, none⟩ = some (.string x1) := (blk_cell HK4.out 1).trans rfl)
              | (go_at_call 45; refine (HB4.out.duo _ _ 1 x1.size.toUInt8 rfl (u8_mod _) (by have := HT.out; have := HLI2.out; omega)).mono ?_; rintro e w5 ⟨⟨n5, rfl⟩, HB5, HO5⟩; have HK5 := Aside0.mk (HO5.out g2 _ HK4.out HGB.out (fun _ _ c => by simp at c)); have f5 : w5.cell? ⟨g2, 1, none⟩ = some (.string x1) := (blk_cell HK5.out 1).trans rfl)
              | (go_at_call 46; refine (HB5.out.text x1 (by rw [ByteArray.size_append, sz2]; have := HT.out; have := HLI2.out; have := HS1.out; omega)).mono ?_; rintro e w6 ⟨⟨n6, rfl⟩, HB6, HO6⟩; have HK6 := Aside0.mk (OthersKept.keep HO6.out g2 _ HK5.out HGB.out (fun _ _ c => by simp at c)); have f6 : w6.cell? ⟨g2, 2, none⟩ = some (.string x2) := (blk_cell HK6.out 2).trans rfl))
            go_roundg k1
            case measure => omega
            case rel => exact ⟨i + 1, _, by have := HLI2.out; rw [IntWalk.wrap64_in _ (by omega)]; rfl, ⟨by have := HI.out; omega⟩, ⟨by rw [HRI.out, ByteArray.append_assoc]; exact HX.out⟩, ⟨by rw [ByteArray.append_assoc, ByteArray.size_append]; have := HT.out; have := HS0.out; omega⟩, HB6⟩
        · rw [if_neg hc] at hx
          obtain ⟨rfl, e2⟩ := Prod.mk.inj hx
          rw [e2] at CC hc
          have nc : (r2 != 0) = true := by simpa using hc
          have nd : decide (r2 = 0) = false := decide_eq_false hc
          clear hx hc e2
          go_wp2_with (first
            | (refine box_lay 6 rfl rfl 45 rfl #[.bool false, .string ⟨#[]⟩, .string ⟨#[]⟩] (by kernel_rfl) ?_; intro g2 HG w2 HK HW)
            | (refine box_put rfl rfl 45 _ _ rfl g2 _ #[.bool x0, .string x1, .string x2] rfl rfl HK.out rfl rfl (by kernel_rfl) ?_; intro w3 HK3 HW3 HO3 HS3; have HB3 := Aside0.mk (HB.out.step (HW.out.trans (HW3.out.mono (by have := HG.out; omega)))); have d0 : w3.cell? ⟨g2, 0, none⟩ = some (.bool x0) := (blk_cell HK3.out 0).trans rfl; have d1 : w3.cell? ⟨g2, 1, none⟩ = some (.string x1) := (blk_cell HK3.out 1).trans rfl; have d2 : w3.cell? ⟨g2, 2, none⟩ = some (.string x2) := (blk_cell HK3.out 2).trans rfl)
            | (go_at_call 44; refine (CC.out _).mono ?_; rintro e w4 ⟨rfl, hb4⟩; have HB4 := Aside0.mk (HB3.out.step hb4); clear hb4))
          go_ret2
          exact ⟨rfl, HB4.out.2⟩
end Go.Proofs.YtnhhbmekjoanbaaDoor.P
set_option linter.unusedVariables false
set_option linter.unusedSimpArgs false
namespace Go.Proofs.YtnhhbmekjoanbaaDoor.P
open Go.RowKit Go.Proofs.YtnhhbmekjoanbaaDoorW.PrintWords Go.Proofs.YtnhhbmekjoanbaaDoorW.PrintLast Go.Proofs.YtnhhbmekjoanbaaDoorW.PrintMore
def riseB : ByteArray → List S49 → Bool
  | _, [] => true
  | last, x :: r => pathB x.f0 && (decide (x.f1.size ≤ 4096) && (Op.bytesLess last.toList x.f0.toList && riseB x.f0 r))
def mayB (l : List S49) : Bool := decide (l.length ≤ 40) && riseB ⟨#[]⟩ l
theorem may_l0 (l : List S49) (hl : l.length ≤ 40) : ∀ (k i : Nat) (last : ByteArray), i ≤ l.length → l.length - i < k → files_May.l0 k last l (l.length : Int) (i : Int) = some (riseB last (l.drop i))
  | 0, _, _, _, h => absurd h (by omega)
  | k + 1, i, last, hi, h => by
    rw [files_May.l0]
    cases hd : l.drop i with
    | nil =>
      have := List.drop_eq_nil_iff.1 hd
      rw [if_neg (by omega)]
      rfl
    | cons x r =>
      obtain ⟨h1, h2, h3⟩ := rdF_drop hd
      rw [if_pos (by omega), if_pos (by omega), if_pos (by omega), h1, riseB]
      unfold files_Path.f
      rw [Option.bind_some]
      have ih := may_l0 l hl k (i + 1) x.f0 (by omega) (by omega)
      rw [h3] at ih
      rw [show wrap64 ((i : Int) + 1) = ((i + 1 : Nat) : Int) by rw [IntWalk.wrap64_in _ (by omega)]; rfl, ih]
      cases pathB x.f0
      · rw [if_neg (by decide)]; rfl
      · rw [if_pos rfl]
        by_cases h4 : x.f1.size ≤ 4096
        · rw [if_neg (by omega), decide_eq_true h4]
          cases Op.bytesLess last.toList x.f0.toList
          · rw [if_neg (by decide)]; rfl
          · rw [if_pos rfl]; rfl
        · rw [if_pos (by omega), decide_eq_false h4]; rfl
theorem may_f (l : List S49) (k : Nat) (hk : 42 ≤ k) : files_May.f k l = some (mayB l) := by
  unfold files_May.f mayB
  by_cases h : l.length ≤ 40
  · rw [if_neg (by omega), decide_eq_true h]
    have := may_l0 l h k 0 ⟨#[]⟩ (by omega) (by omega)
    rw [List.drop_zero] at this
    rw [show (0 : Int) = ((0 : Nat) : Int) from rfl, this]
    rfl
  · rw [if_pos (by omega), decide_eq_false h]; rfl
theorem may_calls (A0 : Option Addr) (c0 : Nat) (l0 : List S49) (w : World) (hr0 : Kd.C k49 w A0 l0.length l0) (hc0 : l0.length ≤ c0) :
    Calls Tryd.prog 16 #[.slice A0 l0.length c0] w fun e w' => e = .returned (.bool (mayB l0)) ∧ Below w.heap.size w w' :=
  files_May.calls 42 A0 c0 l0 _ w hr0 hc0 (may_f l0 42 (Nat.le_refl _))
end Go.Proofs.YtnhhbmekjoanbaaDoor.P
namespace Go.Proofs
open Go.Shelf Go.RowKit Go.Lib Go.Sort
def Tryd.sortOps_ren : Go.Shelf.Ren := ⟨fun | 6 => 41 | 15 => 58 | 14 => 57 | 28 => 76 | 29 => 77 | 20 => 68 | 21 => 69 | 22 => 70 | 23 => 71 | 24 => 72 | 25 => 73 | 26 => 74 | 27 => 75 | 46 => 84 | 47 => 85 | 48 => 86 | 49 => 87 | 50 => 88 | 57 => 94 | n => n, fun | 22 => 30 | 24 => 45 | 25 => 66 | 3 => 3 | 39 => 76 | 0 => 0 | 53 => 109 | 55 => 111 | 4 => 4 | 46 => 103 | 45 => 102 | 50 => 86 | 5 => 5 | 9 => 9 | 66 => 115 | 70 => 119 | 76 => 128 | 77 => 129 | n => n, fun | n => n⟩
theorem Tryd.sortOps : Go.Proofs.SlLaysF0.n6 Tryd.prog Tryd.sortOps_ren := {
  mixed := by kernel_rfl
  f6 := ⟨Tryd.f41.name, by decide, Tryd.func41.trans (congrArg some (by kernel_rfl))⟩
  f14 := ⟨Tryd.f57.name, by decide, Tryd.func57.trans (congrArg some (by kernel_rfl))⟩
  f15 := Tryd.func58.trans (congrArg some (by kernel_rfl))
  f20 := ⟨Tryd.f68.name, by decide, Tryd.func68.trans (congrArg some (by kernel_rfl))⟩
  f21 := ⟨Tryd.f69.name, by decide, Tryd.func69.trans (congrArg some (by kernel_rfl))⟩
  f22 := ⟨Tryd.f70.name, by decide, Tryd.func70.trans (congrArg some (by kernel_rfl))⟩
  f23 := ⟨Tryd.f71.name, by decide, Tryd.func71.trans (congrArg some (by kernel_rfl))⟩
  f24 := ⟨Tryd.f72.name, by decide, Tryd.func72.trans (congrArg some (by kernel_rfl))⟩
  f25 := ⟨Tryd.f73.name, by decide, Tryd.func73.trans (congrArg some (by kernel_rfl))⟩
  f26 := ⟨Tryd.f74.name, by decide, Tryd.func74.trans (congrArg some (by kernel_rfl))⟩
  f27 := ⟨Tryd.f75.name, by decide, Tryd.func75.trans (congrArg some (by kernel_rfl))⟩
  f28 := Tryd.func76.trans (congrArg some (by kernel_rfl))
  f29 := Tryd.func77.trans (congrArg some (by kernel_rfl))
  f46 := ⟨Tryd.f84.name, by decide, Tryd.func84.trans (congrArg some (by kernel_rfl))⟩
  f47 := Tryd.func85.trans (congrArg some (by kernel_rfl))
  f48 := Tryd.func86.trans (congrArg some (by kernel_rfl))
  f49 := ⟨Tryd.f87.name, by decide, Tryd.func87.trans (congrArg some (by kernel_rfl))⟩
  f50 := ⟨Tryd.f88.name, by decide, Tryd.func88.trans (congrArg some (by kernel_rfl))⟩
  f57 := ⟨Tryd.f94.name, by decide, Tryd.func94.trans (congrArg some (by kernel_rfl))⟩
  t0 := Tryd.underlying0
  a0 := Tryd.isAgg0
  z0 := Tryd.sizeOf0
  v0 := Tryd.zeroValue0
  t3 := Tryd.underlying3
  a3 := Tryd.isAgg3
  z3 := Tryd.sizeOf3
  v3 := Tryd.zeroValue3
  t4 := Tryd.underlying4
  a4 := Tryd.isAgg4
  z4 := Tryd.sizeOf4
  v4 := Tryd.zeroValue4
  t5 := Tryd.underlying5
  a5 := Tryd.isAgg5
  z5 := Tryd.sizeOf5
  v5 := Tryd.zeroValue5
  t9 := Tryd.underlying9
  a9 := Tryd.isAgg9
  z9 := Tryd.sizeOf9
  v9 := Tryd.zeroValue9
  t22 := Tryd.underlying30
  a22 := Tryd.isAgg30
  z22 := Tryd.sizeOf30
  v22 := Tryd.zeroValue30
  t25 := Tryd.underlying66
  a25 := Tryd.isAgg66
  z25 := Tryd.sizeOf66
  v25 := Tryd.zeroValue66
  t39 := Tryd.underlying76
  a39 := Tryd.isAgg76
  z39 := Tryd.sizeOf76
  v39 := Tryd.zeroValue76
  t45 := Tryd.underlying102
  a45 := Tryd.isAgg102
  z45 := Tryd.sizeOf102
  v45 := Tryd.zeroValue102
  t46 := Tryd.underlying103
  a46 := Tryd.isAgg103
  z46 := Tryd.sizeOf103
  v46 := Tryd.zeroValue103
  t50 := Tryd.underlying86
  a50 := Tryd.isAgg86
  z50 := Tryd.sizeOf86
  v50 := Tryd.zeroValue86
  t53 := Tryd.underlying109
  a53 := Tryd.isAgg109
  z53 := Tryd.sizeOf109
  v53 := Tryd.zeroValue109
  t55 := Tryd.underlying111
  a55 := Tryd.isAgg111
  z55 := Tryd.sizeOf111
  v55 := Tryd.zeroValue111
  t66 := Tryd.underlying115
  a66 := Tryd.isAgg115
  z66 := Tryd.sizeOf115
  v66 := Tryd.zeroValue115
  t70 := Tryd.underlying119
  a70 := Tryd.isAgg119
  z70 := Tryd.sizeOf119
  v70 := Tryd.zeroValue119
  t76 := Tryd.underlying128
  a76 := Tryd.isAgg128
  z76 := Tryd.sizeOf128
  v76 := Tryd.zeroValue128
  t77 := Tryd.underlying129
  a77 := Tryd.isAgg129
  z77 := Tryd.sizeOf129
  v77 := Tryd.zeroValue129 }
end Go.Proofs
namespace Go.Proofs.YtnhhbmekjoanbaaDoor.P
open Go.Shelf Go.RowKit Go.Lib Go.Sort Go.Proofs.YtnhhbmekjoanbaaDoorW.PrintWords Go.Proofs.YtnhhbmekjoanbaaDoorW.PrintLast Go.Proofs.YtnhhbmekjoanbaaDoorW.PrintMore
set_option linter.unusedVariables false
def encOp (x : S45) : List Value := [.bool x.f0, .string x.f1, .string x.f2]
instance : Inhabited S45 := ⟨z45⟩
set_option maxHeartbeats 1000000 in
theorem diff1 (x y : S45) (W : World) : Calls Tryd.prog 42 #[.agg #[.bool x.f0, .string x.f1, .string x.f2], .agg #[.bool y.f0, .string y.f1, .string y.f2]] W fun e w' => e = .returned (.int .i64 (cmpS x.f1 y.f1)) ∧ ∃ q os', w' = grow (W.drewN q) os' := by
  have hu := Tryd.underlying45
  have hcon := Aside0.mk (fun W' => Tryd.strings_Compare x.f1 y.f1 W')
  go_enter Tryd.func42, Tryd.ntmps42
  go_wp2_with (go_at_call 43; refine (hcon.out _).mono ?_; rintro e w' ⟨rfl, rfl⟩)
  go_ret
  exact ⟨rfl, 0, _, by rw [alloc_eq_grow, alloc_eq_grow, grow_grow]; rfl⟩
theorem swoOp : SWO (ltOf fun x y : S45 => cmpS x.f1 y.f1) := cb_swo (fun x : S45 => x.f1.data.toList)
theorem sort_ops (blk off cap : Nat) (d : Array S45) (w : World) (hH : HoldsK encOp 3 w blk off d) (hblk : blk < w.heap.size) (hsz : d.size < 4611686018427387904) :
    Calls Tryd.prog 41 #[.slice (some ⟨blk, off, none⟩) d.size cap, .func (.func 42) #[] #[]] w fun e w' => e = .returned (.tuple #[]) ∧ ∃ d' n os, PermIn 0 d.size d d' ∧ SortedIn (ltOf fun x y : S45 => cmpS x.f1 y.f1) 0 d.size d' ∧ w' = sortWorldK encOp 3 w blk off n d' os :=
  AnyQ.slices_SortFunc Tryd.sortOps 3 Tryd.isAgg45 Tryd.sizeOf45 encOp (fun _ => rfl) (fun x v hv => by simp [encOp] at hv; rcases hv with rfl | rfl | rfl <;> rfl) (fun x y => cmpS x.f1 y.f1) swoOp 42 #[] blk off cap d w (enters_of Tryd.func42 (by kernel_rfl) rfl) (fun _ _ _ _ x y => diff1 x y _) hH hblk hsz
end Go.Proofs.YtnhhbmekjoanbaaDoor.P
namespace Go.Proofs.YtnhhbmekjoanbaaDoor.P
open Go.RowKit Go.Proofs.YtnhhbmekjoanbaaDoorW.PrintWords Go.Proofs.YtnhhbmekjoanbaaDoorW.PrintLast Go.Proofs.YtnhhbmekjoanbaaDoorW.PrintMore Go.Proofs.YtnhhbmekjoanbaaDoor.Rg
set_option linter.unusedVariables false
set_option maxHeartbeats 2000000 in
set_option maxRecDepth 100000 in
theorem each_calls (s : ByteArray) (w : World) : Calls Tryd.prog 49 #[.string s] w fun e w' =>
    e = .returned (.func (.func 61) #[] #[.pointer (some ⟨w.heap.size, 0, none⟩)]) ∧ w' = w.alloc (.cells #[.string s] 9 (0, 0)) := by
  go_enter Tryd.func49, Tryd.ntmps49
  have hmf : ∀ (fn : Fn) (first cap : Array Value) (w : World), (Instr.makeFunc fn first cap).run Tryd.prog w = .ok (.func fn first cap) w := fun _ _ _ _ => rfl
  go_wp2
  go_ret
  exact ⟨rfl, rfl⟩
/-- What comes of a text: the ops that stand in it; whether all of it stands. -/
def opsF : Nat → ByteArray → List S45 × Bool
  | 0, _ => ([], true)
  | k + 1, s => if s.size = 0 then ([], true) else if (firstB s).2.1 = true then ((firstB s).1 :: (opsF k (firstB s).2.2).1, (opsF k (firstB s).2.2).2) else ([], false)
/-- each's list, by what stands. -/
theorem eachF_ops : ∀ (k : Nat) (s : ByteArray), ∃ t, eachF k s = (opsF k s).1.map (fun o => (o, true)) ++ t ∧ (((opsF k s).2 = true ∧ t = []) ∨ ((opsF k s).2 = false ∧ ∃ o, t = [(o, false)]))
  | 0, _ => ⟨[], rfl, .inl ⟨rfl, rfl⟩⟩
  | k + 1, s => by
    rw [eachF, opsF]
    by_cases h0 : s.size = 0
    · rw [if_pos h0, if_pos h0]
      exact ⟨[], rfl, .inl ⟨rfl, rfl⟩⟩
    · rw [if_neg h0, if_neg h0]
      by_cases h1 : (firstB s).2.1 = true
      · rw [if_pos h1, if_pos h1]
        obtain ⟨t, h2, h3⟩ := eachF_ops k (firstB s).2.2
        exact ⟨t, by rw [h2]; rfl, h3⟩
      · rw [if_neg h1, if_neg h1]
        exact ⟨_, rfl, .inr ⟨rfl, _, rfl⟩⟩
end Go.Proofs.YtnhhbmekjoanbaaDoor.P
namespace Go.Proofs.YtnhhbmekjoanbaaDoor.P
open Go.RowKit Go.Proofs.YtnhhbmekjoanbaaDoorW.PrintWords Go.Proofs.YtnhhbmekjoanbaaDoorW.PrintLast Go.Proofs.YtnhhbmekjoanbaaDoorW.PrintMore
attribute [local go_sem] max2_int min2_int max_two min_two max_three min_three max_four min_four
set_option linter.unusedVariables false
set_option linter.unusedSimpArgs false
def goneB (b : List S49) : List S49 → List S45
  | [] => []
  | x :: r => if (getB x.f0 b).2 = true then goneB b r else ⟨true, x.f0, ⟨#[]⟩⟩ :: goneB b r
def putB (a : List S49) : List S49 → List S45
  | [] => []
  | x :: r => if (getB x.f0 a).2 = true ∧ ((getB x.f0 a).1.toList == x.f1.toList) = true then putB a r else ⟨false, x.f0, x.f1⟩ :: putB a r
theorem goneB_len (b : List S49) : ∀ l, (goneB b l).length ≤ l.length
  | [] => Nat.le_refl _
  | x :: r => by
    have := goneB_len b r
    rw [goneB]
    split
    · rw [List.length_cons]; omega
    · rw [List.length_cons, List.length_cons]; omega
set_option maxHeartbeats 8000000 in
set_option maxRecDepth 100000 in
theorem diff_may (A0 A1 : Option Addr) (c0 c1 : Nat) (a b : List S49) (w : World) (ha : Kd.C k49 w A0 a.length a) (ga : a.length ≤ c0) (hb : Kd.C k49 w A1 b.length b) (gb : b.length ≤ c1) (hm : (mayB a && mayB b) = false) :
    Calls Tryd.prog 24 #[.slice A0 a.length c0, .slice A1 b.length c1] w fun e w' => e = .returned (.slice none 0 0) ∧ Below w.heap.size w w' := by
  have CA := Aside0.mk (may_calls A0 c0 a w ha ga)
  have CB := Aside0.mk (fun (W : World) (h : Below w.heap.size w W) => may_calls A1 c1 b W (Kd.C_below hb h) gb)
  clear ha ga hb gb
  cases h1 : mayB a with
  | false =>
    rw [h1] at CA
    clear h1 hm CB
    go_enter Tryd.func24, Tryd.ntmps24
    go_wp2_with (go_at_call 16; refine CA.out.mono ?_; rintro e w2 ⟨rfl, hb⟩; have HB := Aside0.mk hb; clear hb)
    go_ret
    exact ⟨rfl, HB.out⟩
  | true =>
    rw [h1] at CA hm
    rw [Bool.true_and] at hm
    rw [hm] at CB
    clear h1 hm
    go_enter Tryd.func24, Tryd.ntmps24
    go_wp2_with (fail)
    refine CA.out.mono ?_
    rintro e w2 ⟨rfl, hb⟩
    have HB := Aside0.mk hb
    clear hb CA
    go_wp2_with (go_at_call 16; refine (CB.out _ HB.out).mono ?_; rintro e w3 ⟨rfl, hb⟩; have HB3 := Aside0.mk (below_step HB.out hb); clear hb)
    go_ret
    exact ⟨rfl, HB3.out⟩
/-- What slices.SortFunc with Diff's function does to ops of one's own (FSort shows it). -/
def SortsOps : Prop := ∀ (xs : List S45) (v : Value) (w W : World), Kd.R k45 45 W w.heap.size (fun _ => True) v xs → Below w.heap.size w W → xs.length ≤ 1000000 →
  Calls Tryd.prog 41 #[v, .func (.func 42) #[] #[]] W fun e w' => e = .returned (.tuple #[]) ∧ ∃ ys, Aside0 (ys.Perm xs ∧ ys.Pairwise (fun x y => ¬ cmpS y.f1 x.f1 < 0)) ∧ Aside0 (Kd.R k45 45 w' w.heap.size (fun _ => True) v ys) ∧ Aside0 (Below w.heap.size w w')
set_option maxHeartbeats 8000000 in
set_option maxRecDepth 100000 in
theorem diff_loops (hsort : SortsOps) (A0 A1 : Option Addr) (c0 c1 : Nat) (a b : List S49) (w : World) (ha : Kd.C k49 w A0 a.length a) (ga : a.length ≤ c0) (hb : Kd.C k49 w A1 b.length b) (gb : b.length ≤ c1) (hma : mayB a = true) (hmb : mayB b = true) :
    Calls Tryd.prog 24 #[.slice A0 a.length c0, .slice A1 b.length c1] w fun e w' => ∃ v, e = .returned v ∧ (∃ ys, (ys.Perm (goneB b a ++ putB a b) ∧ ys.Pairwise (fun x y => ¬ cmpS y.f1 x.f1 < 0)) ∧ Kd.R k45 45 w' w.heap.size (fun _ => True) v ys) ∧ Below w.heap.size w w' := by
  have HSO := Aside0.mk hsort
  clear hsort
  have CA := Aside0.mk (may_calls A0 c0 a w ha ga)
  have CB := Aside0.mk (fun (W : World) (h : Below w.heap.size w W) => may_calls A1 c1 b W (Kd.C_below hb h) gb)
  rw [hma] at CA
  rw [hmb] at CB
  have HA := Aside0.mk ha
  have HBB := Aside0.mk hb
  have GA := Aside0.mk ga
  have GB := Aside0.mk gb
  have LA := Aside0.mk (show a.length ≤ 40 by unfold mayB at hma; simp only [Bool.and_eq_true, decide_eq_true_eq] at hma; exact hma.1)
  have LB := Aside0.mk (show b.length ≤ 40 by unfold mayB at hmb; simp only [Bool.and_eq_true, decide_eq_true_eq] at hmb; exact hmb.1)
  clear ha ga hb gb hma hmb
  have hu := Tryd.underlying49
  have hu2 := Tryd.underlying45
  go_enter Tryd.func24, Tryd.ntmps24
  go_wp2_with (fail)
  refine CA.out.mono ?_
  rintro e w2 ⟨rfl, hb⟩
  have HB2 := Aside0.mk hb
  clear hb CA
  go_wp2_with (go_at_call 16; refine (CB.out _ HB2.out).mono ?_; rintro e w3 ⟨rfl, hb⟩; have HB := Aside0.mk (below_step HB2.out hb); clear hb)
  go_loopg [5, 24] a.length (fun kq v5 v24 W => ∃ (i : Nat) (xs : List S45), v24 = .int .i64 (i : Int) ∧ Aside0 (kq + i = a.length) ∧ Aside0 (xs ++ goneB b (a.drop i) = goneB b a ∧ xs.length ≤ i) ∧ Aside0 (Kd.R k45 45 W w.heap.size (fun _ => True) v5 xs) ∧ Aside0 (Below w.heap.size w W))
  case atStart => exact ⟨0, [], rfl, ⟨by omega⟩, ⟨rfl, Nat.le_refl _⟩, ⟨Kd.R_nil ..⟩, HB⟩
  case round =>
    clear HB CB HB2
    obtain ⟨i, xs, rfl, HI, HX, HO, HB⟩ := hrel
    cases gk with
    | zero =>
      have ei : i = a.length := by have := HI.out; omega
      subst ei
      have hx := HX.out.1
      have hxl := HX.out.2
      rw [List.drop_length, goneB, List.append_nil] at hx
      have HX0 := Aside0.mk hx
      clear HX HI hx hxl
      obtain ⟨wo, ho⟩ : ∃ z, z = wr := ⟨wr, rfl⟩
      subst ho
      go_wp2_with (fail)
      go_loopg [5, 46] b.length (fun kq v5 v46 W => ∃ (i : Nat) (xs : List S45), v46 = .int .i64 (i : Int) ∧ Aside0 (kq + i = b.length) ∧ Aside0 (xs ++ putB a (b.drop i) = goneB b a ++ putB a b ∧ xs.length ≤ a.length + i) ∧ Aside0 (Kd.R k45 45 W w.heap.size (fun _ => True) v5 xs) ∧ Aside0 (Below w.heap.size w W))
      case atStart => exact ⟨0, _, rfl, ⟨by omega⟩, ⟨by rw [HX0.out]; rfl, by rw [HX0.out]; exact goneB_len b a⟩, HO, HB⟩
      case round =>
        clear HO HB HX0
        obtain ⟨i, xs, rfl, HI, HX, HO, HB⟩ := hrel
        cases gk with
        | zero =>
          have ei : i = b.length := by have := HI.out; omega
          subst ei
          have hx := HX.out.1
          have hxl := HX.out.2
          rw [List.drop_length, putB, List.append_nil] at hx
          have CS := Aside0.mk (HSO.out xs _ w wr HO.out HB.out (by have := LA.out; have := LB.out; omega))
          have HXX := Aside0.mk hx
          clear HX HI hx hxl
          go_wp2_with (go_at_call 41; refine CS.out.mono ?_; rintro e w8 ⟨rfl, ys, HP, HR, HB8⟩)
          go_ret
          exact ⟨_, rfl, ⟨ys, ⟨by rw [← HXX.out]; exact HP.out.1, HP.out.2⟩, HR.out⟩, HB8.out⟩
        | succ k1 =>
          cases hl : b.drop i with
          | nil =>
            have := List.drop_eq_nil_iff.1 hl
            have := HI.out
            omega
          | cons x r =>
            obtain ⟨hx1, hi, hr⟩ := rdF_drop hl
            have hx := HX.out.1
            have hxl := HX.out.2
            rw [hl, putB] at hx
            clear HX
            obtain ⟨ad, ea, hy0, hy1⟩ := at_T49 (Kd.C_below HBB.out HB.out) (i : Int) (by omega) (by omega)
            subst ea
            rw [hx1, Int.toNat_natCast] at hy0 hy1
            have p1 : (i : Int) < (b.length : Int) := by omega
            have p0 : (0 : Int) ≤ (i : Int) := by omega
            have n0 : decide ((i : Int) < (b.length : Int)) = true := decide_eq_true p1
            have n1 : decide (i < b.length) = true := decide_eq_true hi
            have HRI := Aside0.mk hr
            have HXL := Aside0.mk hxl
            clear hl hr hx1 hxl
            obtain ⟨x0, x1⟩ := x
            dsimp only at hy0 hy1 hx
            have hil := LB.out
            have HII := Aside0.mk (show i < 40 by omega)
            clear hil hi
            generalize hg : getB x0 a = g at *
            obtain ⟨g0, g1⟩ := g
            have CG := Aside0.mk (fun (W : World) (h : Below w.heap.size w W) => files_Get.calls A0 c0 a x0 g0 g1 W (Kd.C_below HA.out h) GA.out (congrArg some hg))
            dsimp only at hx
            clear hg
            cases g1 with
            | true =>
              cases hge : (g0.toList == x1.toList) with
              | true =>
                have hn : (g0.toList != x1.toList) = false := by rw [bne, hge]; rfl
                rw [if_pos ⟨rfl, hge⟩] at hx
                have HX := Aside0.mk hx
                clear hx
                go_wp2_with (first
                  | (refine box_lay 11 rfl rfl 49 rfl #[.string ⟨#[]⟩, .string ⟨#[]⟩] (by kernel_rfl) ?_; intro g2 HG w4 HK HW; have HB4 := Aside0.mk (below_step HB.out HW.out); have HO4 := Aside0.mk (Kd.R_below HO.out HW.out))
                  | (refine box_put rfl rfl 49 _ _ rfl g2 _ #[.string x0, .string x1] rfl rfl HK.out rfl rfl (by kernel_rfl) ?_; intro w5 HK5 HW5 HOO5 HS5; have HWW := Aside0.mk (HW.out.trans (HW5.out.mono (Nat.le_of_eq HG.out.symm))); have HB5 := Aside0.mk (below_step HB.out HWW.out); have HO5 := Aside0.mk (Kd.R_below HO.out HWW.out); have d0 : w5.cell? ⟨g2, 0, none⟩ = some (.string x0) := (blk_cell HK5.out 0).trans rfl; have d1 : w5.cell? ⟨g2, 1, none⟩ = some (.string x1) := (blk_cell HK5.out 1).trans rfl)
                  | (go_at_call 12; refine (CG.out _ HB5.out).mono ?_; rintro e w6 ⟨rfl, hb⟩; have HB6 := Aside0.mk (below_step HB5.out hb); have HO6 := Aside0.mk (Kd.R_below HO5.out hb); have HK6 := Aside0.mk (blk_below HK5.out hb); clear hb; have e1 : w6.cell? ⟨g2, 1, none⟩ = some (.string x1) := (blk_cell HK6.out 1).trans rfl))
                go_roundg k1
                case measure => omega
                case rel => exact ⟨i + 1, xs,  by have := HII.out; rw [IntWalk.wrap64_in _ (by omega)]; rfl, ⟨by have := HI.out; omega⟩, ⟨by rw [HRI.out]; exact HX.out, by have := HXL.out; omega⟩, HO6, HB6⟩
              | false =>
                have hn : (g0.toList != x1.toList) = true := by rw [bne, hge]; rfl
                rw [if_neg (fun c => by rw [hge] at c; exact absurd c.2 (by decide))] at hx
                have HX := Aside0.mk hx
                clear hx
                go_wp2_with (first
                  | (refine box_lay 11 rfl rfl 49 rfl #[.string ⟨#[]⟩, .string ⟨#[]⟩] (by kernel_rfl) ?_; intro g2 HG w4 HK HW; have HB4 := Aside0.mk (below_step HB.out HW.out); have HO4 := Aside0.mk (Kd.R_below HO.out HW.out))
                  | (refine box_put rfl rfl 49 _ _ rfl g2 _ #[.string x0, .string x1] rfl rfl HK.out rfl rfl (by kernel_rfl) ?_; intro w5 HK5 HW5 HOO5 HS5; have HWW := Aside0.mk (HW.out.trans (HW5.out.mono (Nat.le_of_eq HG.out.symm))); have HB5 := Aside0.mk (below_step HB.out HWW.out); have HO5 := Aside0.mk (Kd.R_below HO.out HWW.out); have d0 : w5.cell? ⟨g2, 0, none⟩ = some (.string x0) := (blk_cell HK5.out 0).trans rfl; have d1 : w5.cell? ⟨g2, 1, none⟩ = some (.string x1) := (blk_cell HK5.out 1).trans rfl)
                  | (go_at_call 12; refine (CG.out _ HB5.out).mono ?_; rintro e w6 ⟨rfl, hb⟩; have HB6 := Aside0.mk (below_step HB5.out hb); have HO6 := Aside0.mk (Kd.R_below HO5.out hb); have HK6 := Aside0.mk (blk_below HK5.out hb); clear hb; have e0 : w6.cell? ⟨g2, 0, none⟩ = some (.string x0) := (blk_cell HK6.out 0).trans rfl; have e1 : w6.cell? ⟨g2, 1, none⟩ = some (.string x1) := (blk_cell HK6.out 1).trans rfl)
                  | ((with_reducible refine gate_builtin (b := .append) (xs := #[.tmp 65, .tmp 71]) rfl ?_); at_builtin; refine Kd.R_append k45 (w0 := w) w.heap.size rfl (.tmp 65) (.tmp 71) 30 45 (.agg #[.bool false, .string ⟨#[]⟩, .string ⟨#[]⟩]) 40 rfl Tryd.underlying30 info45 rfl (by decide) (by omega) _ xs (⟨false, x0, x1⟩ : S45) [.bool false, .string x0, .string x1] (fun _ => True) (fun _ => False) rfl rfl ?aP (fun _ hk => hk.elim) ?aF ?aO ?aB ?aS ?aL ?_; (case aP => exact k45_mkM _ _ _ (⟨false, x0, x1⟩ : S45)); (case aF => exact (fun _ _ => trivial)); (case aO => exact HO6.out); (case aB => exact HB6.out); (case aS => exact below_size HB6.out); (case aL => have := HXL.out; have := HII.out; have := LA.out; omega); intro v7 w7 ho hb hgr hat; have HO7 := Aside0.mk ho; have HB7 := Aside0.mk hb; clear ho hb hgr hat))
                go_roundg k1
                case measure => omega
                case rel => exact ⟨i + 1, xs ++ [⟨false, x0, x1⟩], by have := HII.out; rw [IntWalk.wrap64_in _ (by omega)]; rfl, ⟨by have := HI.out; omega⟩, ⟨by rw [HRI.out, List.append_assoc]; exact HX.out, by rw [List.length_append]; have := HXL.out; simp only [List.length_cons, List.length_nil]; omega⟩, HO7, HB7⟩
            | false =>
              rw [if_neg (fun c => absurd c.1 (by decide))] at hx
              have HX := Aside0.mk hx
              clear hx
              go_wp2_with (first
                | (refine box_lay 11 rfl rfl 49 rfl #[.string ⟨#[]⟩, .string ⟨#[]⟩] (by kernel_rfl) ?_; intro g2 HG w4 HK HW; have HB4 := Aside0.mk (below_step HB.out HW.out); have HO4 := Aside0.mk (Kd.R_below HO.out HW.out))
                | (refine box_put rfl rfl 49 _ _ rfl g2 _ #[.string x0, .string x1] rfl rfl HK.out rfl rfl (by kernel_rfl) ?_; intro w5 HK5 HW5 HOO5 HS5; have HWW := Aside0.mk (HW.out.trans (HW5.out.mono (Nat.le_of_eq HG.out.symm))); have HB5 := Aside0.mk (below_step HB.out HWW.out); have HO5 := Aside0.mk (Kd.R_below HO.out HWW.out); have d0 : w5.cell? ⟨g2, 0, none⟩ = some (.string x0) := (blk_cell HK5.out 0).trans rfl; have d1 : w5.cell? ⟨g2, 1, none⟩ = some (.string x1) := (blk_cell HK5.out 1).trans rfl)
                | (go_at_call 12; refine (CG.out _ HB5.out).mono ?_; rintro e w6 ⟨rfl, hb⟩; have HB6 := Aside0.mk (below_step HB5.out hb); have HO6 := Aside0.mk (Kd.R_below HO5.out hb); have HK6 := Aside0.mk (blk_below HK5.out hb); clear hb; have e0 : w6.cell? ⟨g2, 0, none⟩ = some (.string x0) := (blk_cell HK6.out 0).trans rfl; have e1 : w6.cell? ⟨g2, 1, none⟩ = some (.string x1) := (blk_cell HK6.out 1).trans rfl)
                | ((with_reducible refine gate_builtin (b := .append) (xs := #[.tmp 65, .tmp 71]) rfl ?_); at_builtin; refine Kd.R_append k45 (w0 := w) w.heap.size rfl (.tmp 65) (.tmp 71) 30 45 (.agg #[.bool false, .string ⟨#[]⟩, .string ⟨#[]⟩]) 40 rfl Tryd.underlying30 info45 rfl (by decide) (by omega) _ xs (⟨false, x0, x1⟩ : S45) [.bool false, .string x0, .string x1] (fun _ => True) (fun _ => False) rfl rfl ?aP (fun _ hk => hk.elim) ?aF ?aO ?aB ?aS ?aL ?_; (case aP => exact k45_mkM _ _ _ (⟨false, x0, x1⟩ : S45)); (case aF => exact (fun _ _ => trivial)); (case aO => exact HO6.out); (case aB => exact HB6.out); (case aS => exact below_size HB6.out); (case aL => have := HXL.out; have := HII.out; have := LA.out; omega); intro v7 w7 ho hb hgr hat; have HO7 := Aside0.mk ho; have HB7 := Aside0.mk hb; clear ho hb hgr hat))
              go_roundg k1
              case measure => omega
              case rel => exact ⟨i + 1, xs ++ [⟨false, x0, x1⟩], by have := HII.out; rw [IntWalk.wrap64_in _ (by omega)]; rfl, ⟨by have := HI.out; omega⟩, ⟨by rw [HRI.out, List.append_assoc]; exact HX.out, by rw [List.length_append]; have := HXL.out; simp only [List.length_cons, List.length_nil]; omega⟩, HO7, HB7⟩
    | succ k1 =>
      cases hl : a.drop i with
      | nil =>
        have := List.drop_eq_nil_iff.1 hl
        have := HI.out
        omega
      | cons x r =>
        obtain ⟨hx1, hi, hr⟩ := rdF_drop hl
        have hx := HX.out.1
        have hxl := HX.out.2
        rw [hl, goneB] at hx
        clear HX
        obtain ⟨ad, e1, hy0, hy1⟩ := at_T49 (Kd.C_below HA.out HB.out) (i : Int) (by omega) (by omega)
        subst e1
        rw [hx1, Int.toNat_natCast] at hy0 hy1
        have p1 : (i : Int) < (a.length : Int) := by omega
        have p0 : (0 : Int) ≤ (i : Int) := by omega
        have n0 : decide ((i : Int) < (a.length : Int)) = true := decide_eq_true p1
        have n1 : decide (i < a.length) = true := decide_eq_true hi
        have HRI := Aside0.mk hr
        have HXL := Aside0.mk hxl
        clear hl hr hx1 hxl
        obtain ⟨x0, x1⟩ := x
        dsimp only at hy0 hy1 hx
        have hil := LA.out
        have HII := Aside0.mk (show i < 40 by omega)
        clear hil hi
        generalize hg : getB x0 b = g at *
        obtain ⟨g0, g1⟩ := g
        have CG := Aside0.mk (fun (W : World) (h : Below w.heap.size w W) => files_Get.calls A1 c1 b x0 g0 g1 W (Kd.C_below HBB.out h) GB.out (congrArg some hg))
        dsimp only at hx
        clear hg
        cases g1 with
        | true =>
          rw [if_pos rfl] at hx
          have HX := Aside0.mk hx
          clear hx
          go_wp2_with (first
            | (refine box_lay 7 rfl rfl 49 rfl #[.string ⟨#[]⟩, .string ⟨#[]⟩] (by kernel_rfl) ?_; intro g2 HG w4 HK HW; have HB4 := Aside0.mk (below_step HB.out HW.out); have HO4 := Aside0.mk (Kd.R_below HO.out HW.out))
            | (refine box_put rfl rfl 49 _ _ rfl g2 _ #[.string x0, .string x1] rfl rfl HK.out rfl rfl (by kernel_rfl) ?_; intro w5 HK5 HW5 HOO5 HS5; have HWW := Aside0.mk (HW.out.trans (HW5.out.mono (Nat.le_of_eq HG.out.symm))); have HB5 := Aside0.mk (below_step HB.out HWW.out); have HO5 := Aside0.mk (Kd.R_below HO.out HWW.out); have d0 : w5.cell? ⟨g2, 0, none⟩ = some (.string x0) := (blk_cell HK5.out 0).trans rfl; have d1 : w5.cell? ⟨g2, 1, none⟩ = some (.string x1) := (blk_cell HK5.out 1).trans rfl)
            | (go_at_call 12; refine (CG.out _ HB5.out).mono ?_; rintro e w6 ⟨rfl, hb⟩; have HB6 := Aside0.mk (below_step HB5.out hb); have HO6 := Aside0.mk (Kd.R_below HO5.out hb); have HK6 := Aside0.mk (blk_below HK5.out hb); clear hb))
          go_roundg k1
          case measure => omega
          case rel => exact ⟨i + 1, xs, by have := HII.out; rw [IntWalk.wrap64_in _ (by omega)]; rfl, ⟨by have := HI.out; omega⟩, ⟨by rw [HRI.out]; exact HX.out, by have := HXL.out; omega⟩, HO6, HB6⟩
        | false =>
          rw [if_neg (by decide)] at hx
          have HX := Aside0.mk hx
          clear hx
          go_wp2_with (first
            | (refine box_lay 7 rfl rfl 49 rfl #[.string ⟨#[]⟩, .string ⟨#[]⟩] (by kernel_rfl) ?_; intro g2 HG w4 HK HW; have HB4 := Aside0.mk (below_step HB.out HW.out); have HO4 := Aside0.mk (Kd.R_below HO.out HW.out))
            | (refine box_put rfl rfl 49 _ _ rfl g2 _ #[.string x0, .string x1] rfl rfl HK.out rfl rfl (by kernel_rfl) ?_; intro w5 HK5 HW5 HOO5 HS5; have HWW := Aside0.mk (HW.out.trans (HW5.out.mono (Nat.le_of_eq HG.out.symm))); have HB5 := Aside0.mk (below_step HB.out HWW.out); have HO5 := Aside0.mk (Kd.R_below HO.out HWW.out); have d0 : w5.cell? ⟨g2, 0, none⟩ = some (.string x0) := (blk_cell HK5.out 0).trans rfl; have d1 : w5.cell? ⟨g2, 1, none⟩ = some (.string x1) := (blk_cell HK5.out 1).trans rfl)
            | (go_at_call 12; refine (CG.out _ HB5.out).mono ?_; rintro e w6 ⟨rfl, hb⟩; have HB6 := Aside0.mk (below_step HB5.out hb); have HO6 := Aside0.mk (Kd.R_below HO5.out hb); have HK6 := Aside0.mk (blk_below HK5.out hb); clear hb; have e0 : w6.cell? ⟨g2, 0, none⟩ = some (.string x0) := (blk_cell HK6.out 0).trans rfl)
            | ((with_reducible refine gate_builtin (b := .append) (xs := #[.tmp 37, .tmp 41]) rfl ?_); at_builtin; refine Kd.R_append k45 (w0 := w) w.heap.size rfl (.tmp 37) (.tmp 41) 30 45 (.agg #[.bool false, .string ⟨#[]⟩, .string ⟨#[]⟩]) 40 rfl Tryd.underlying30 info45 rfl (by decide) (by omega) _ xs (⟨true, x0, ⟨#[]⟩⟩ : S45) [.bool true, .string x0, .string ⟨#[]⟩] (fun _ => True) (fun _ => False) rfl rfl ?aP (fun _ hk => hk.elim) ?aF ?aO ?aB ?aS ?aL ?_; (case aP => exact k45_mkM _ _ _ (⟨true, x0, ⟨#[]⟩⟩ : S45)); (case aF => exact (fun _ _ => trivial)); (case aO => exact HO6.out); (case aB => exact HB6.out); (case aS => exact below_size HB6.out); (case aL => have := HXL.out; have := HII.out; omega); intro v7 w7 ho hb hgr hat; have HO7 := Aside0.mk ho; have HB7 := Aside0.mk hb; clear ho hb hgr hat))
          go_roundg k1
          case measure => omega
          case rel => exact ⟨i + 1, xs ++ [⟨true, x0, ⟨#[]⟩⟩], by have := HII.out; rw [IntWalk.wrap64_in _ (by omega)]; rfl, ⟨by have := HI.out; omega⟩, ⟨by rw [HRI.out, List.append_assoc]; exact HX.out, by rw [List.length_append]; have := HXL.out; simp only [List.length_cons, List.length_nil]; omega⟩, HO7, HB7⟩
end Go.Proofs.YtnhhbmekjoanbaaDoor.P
namespace Go.Proofs.YtnhhbmekjoanbaaDoor.P
open Go Go.RowKit Go.Proofs.YtnhhbmekjoanbaaDoorW.PrintWords Go.Proofs.YtnhhbmekjoanbaaDoorW.PrintLast Go.Proofs.YtnhhbmekjoanbaaDoorW.PrintMore
set_option linter.unusedVariables false
set_option linter.unusedSimpArgs false
def InsP (Wc : World) (base : Nat) (v : Value) (xs : List S49) (i : Nat) (x : S49) (e : Ending) (w' : World) : Prop := ∃ v', e = .returned v' ∧ OwnF w' base v' (xs.take i ++ x :: xs.drop i) ∧ Below base Wc w' ∧ ∀ k, k < Wc.heap.size → some k ≠ v.ownBlock → w'.heap[k]? = Wc.heap[k]?
set_option maxHeartbeats 4000000 in
set_option maxRecDepth 100000 in
theorem ins_nil (Wc : World) (base : Nat) (x : S49) (hb : base ≤ Wc.heap.size) :
    Calls Tryd.prog 56 #[.slice none 0 0, .int .i64 0, .slice (some ⟨Wc.heap.size, 0, none⟩) 1 1] (Wc.alloc (.cells #[.string x.f0, .string x.f1] 49)) (InsP Wc base (.slice none 0 0) [] 0 x) := by
  obtain ⟨x0, x1⟩ := x
  have HO := Aside0.mk (Kd.R_nil k49 49 Wc base (fun _ => True))
  have HB := Aside0.mk (Below.refl base Wc)
  have hu := Tryd.underlying49
  go_enter Tryd.func56, Tryd.ntmps56
  go_wp2_with ((with_reducible refine gate_builtin (b := .append) (xs := #[.tmp 23, .tmp 24]) rfl ?_); at_builtin; refine Kd.R_append k49 (w0 := Wc) base rfl (.tmp 23) (.tmp 24) 22 49 (.agg #[.string ⟨#[]⟩, .string ⟨#[]⟩]) 32 rfl Tryd.underlying22 info49 rfl (by decide) (by omega) _ [] (⟨x0, x1⟩ : S49) [.string x0, .string x1] (fun _ => True) (fun _ => False) rfl rfl ?aP (fun _ hk => hk.elim) ?aF ?aO ?aB ?aS ?aL ?_; (case aP => exact k49_mkM _ _ _ (⟨x0, x1⟩ : S49)); (case aF => exact (fun _ _ => trivial)); (case aO => exact HO.out); (case aB => exact HB.out); (case aS => exact hb); (case aL => decide); intro v7 w7 ho hb7 hgr hat; have HO7 := Aside0.mk ho; have HB7 := Aside0.mk hb7; have HR7 := Aside0.mk hgr; clear ho hb7 hgr hat)
  go_ret
  exact ⟨_, rfl, OwnF.of HO7.out, HB7.out, fun k hk hne => HR7.out.block k hk hne⟩
set_option maxHeartbeats 4000000 in
set_option maxRecDepth 100000 in
theorem ins_end (Wc : World) (g c base : Nat) (xs : List S49) (x : S49) (HO : OwnF Wc base (.slice (some ⟨g, 0, none⟩) xs.length c) xs) (hb : base ≤ Wc.heap.size) (hl : xs.length ≤ 1000) :
    Calls Tryd.prog 56 #[.slice (some ⟨g, 0, none⟩) xs.length c, .int .i64 (xs.length : Int), .slice (some ⟨Wc.heap.size, 0, none⟩) 1 1] (Wc.alloc (.cells #[.string x.f0, .string x.f1] 49)) (InsP Wc base (.slice (some ⟨g, 0, none⟩) xs.length c) xs xs.length x) := by
  obtain ⟨x0, x1⟩ := x
  obtain ⟨-, -, cur, -, hn, -, -, -⟩ := HO.open
  replace HO := Aside0.mk HO.to
  have HB := Aside0.mk (Below.refl base Wc)
  have p0 : (0 : Int) ≤ (xs.length : Int) := by omega
  have hu := Tryd.underlying49
  unfold InsP
  rw [List.take_length, List.drop_length]
  go_enter Tryd.func56, Tryd.ntmps56
  go_wp2_with ((with_reducible refine gate_builtin (b := .append) (xs := #[.tmp 23, .tmp 24]) rfl ?_); at_builtin; refine Kd.R_append k49 (w0 := Wc) base rfl (.tmp 23) (.tmp 24) 22 49 (.agg #[.string ⟨#[]⟩, .string ⟨#[]⟩]) 32 rfl Tryd.underlying22 info49 rfl (by decide) (by omega) _ xs (⟨x0, x1⟩ : S49) [.string x0, .string x1] (fun _ => True) (fun _ => False) rfl rfl ?aP (fun _ hk => hk.elim) ?aF ?aO ?aB ?aS ?aL ?_; (case aP => exact k49_mkM _ _ _ (⟨x0, x1⟩ : S49)); (case aF => exact (fun _ _ => trivial)); (case aO => exact HO.out); (case aB => exact HB.out); (case aS => exact hb); (case aL => omega); intro v7 w7 ho hb7 hgr hat; have HO7 := Aside0.mk ho; have HB7 := Aside0.mk hb7; have HR7 := Aside0.mk hgr; clear ho hb7 hgr hat)
  all_goals (go_ret; exact ⟨_, rfl, OwnF.of HO7.out, HB7.out, fun k hk hne => HR7.out.block k hk hne⟩)
theorem ins_cells (cur cur1 cur2 : Array Value) (xs : List S49) (x : S49) (i c : Nat) (hi : i ≤ xs.length) (hr : xs.length + 1 ≤ c) (hs : cur.size = c * 2) (ht : cur.toList.take (i * 2) = flatF (xs.take i))
    (h1 : cur1.toList = cur.toList.take ((i + 1) * 2) ++ flatF (xs.drop i) ++ cur.toList.drop ((i + 1) * 2 + (flatF (xs.drop i)).length))
    (h2 : cur2.toList = cur1.toList.take (i * 2) ++ encF x ++ cur1.toList.drop (i * 2 + (encF x).length)) : cur2.toList.take ((xs.take i ++ x :: xs.drop i).length * 2) = flatF (xs.take i ++ x :: xs.drop i) := by
  have hl : cur.toList.length = c * 2 := by simp [hs]
  have hd : (flatF (xs.drop i)).length = (xs.length - i) * 2 := by rw [flatF_length, List.length_drop]
  have htl : (cur.toList.take ((i + 1) * 2)).length = (i + 1) * 2 := by rw [List.length_take, hl]; omega
  have e1 : cur1.toList.take (i * 2) = flatF (xs.take i) := by
    rw [h1, List.append_assoc, List.take_append_of_le_length (by rw [htl]; omega), List.take_take, Nat.min_eq_left (by omega), ht]
  have e2 : cur1.toList.drop (i * 2 + (encF x).length) = flatF (xs.drop i) ++ cur.toList.drop ((i + 1) * 2 + (flatF (xs.drop i)).length) := by
    rw [h1, show i * 2 + (encF x).length = (cur.toList.take ((i + 1) * 2)).length by rw [htl]; show i * 2 + 2 = _; omega, List.append_assoc, List.drop_left]
  rw [h2, e1, e2, flatF_append, flatF_cons]
  rw [← List.append_assoc, ← List.append_assoc]
  refine List.take_left' ?_
  rw [List.length_append, List.length_append, flatF_length, flatF_length, List.length_append, List.length_cons]
  show _ + 2 + _ = _
  omega
set_option maxHeartbeats 4000000 in
set_option maxRecDepth 100000 in
theorem ins_shift (Wc : World) (g c base i : Nat) (xs : List S49) (x : S49) (HO : OwnF Wc base (.slice (some ⟨g, 0, none⟩) xs.length c) xs) (hb : base ≤ Wc.heap.size) (hi : i < xs.length) (hr : xs.length + 1 ≤ c) :
    Calls Tryd.prog 56 #[.slice (some ⟨g, 0, none⟩) xs.length c, .int .i64 (i : Int), .slice (some ⟨Wc.heap.size, 0, none⟩) 1 1] (Wc.alloc (.cells #[.string x.f0, .string x.f1] 49)) (InsP Wc base (.slice (some ⟨g, 0, none⟩) xs.length c) xs i x) := by
  obtain ⟨-, hbg, cur, hh, hn, hc, hs, ht⟩ := HO.open
  have hgl : g < Wc.heap.size := (Array.getElem?_eq_some_iff.1 hh).1
  have hc63 : c ≤ 9223372036854775807 := by unfold maxLen at hc; omega
  have hgn : Wc.heap.size ≠ g := by omega
  have hhv : (Wc.alloc (.cells #[.string x.f0, .string x.f1] 49)).heap[Wc.heap.size]? = some (.cells #[.string x.f0, .string x.f1] 49 (0, 0)) := blk_new Wc _
  have hhg : (Wc.alloc (.cells #[.string x.f0, .string x.f1] 49)).heap[g]? = some (.cells cur 49 (0, 0)) := blk_alloc hh _
  have hgA := Aside0.mk ((Below.refl base Wc).alloc hb (.cells #[.string x.f0, .string x.f1] 49))
  have hkA : ∀ k, k < Wc.heap.size → (Wc.alloc (.cells #[.string x.f0, .string x.f1] 49)).heap[k]? = Wc.heap[k]? := fun k hk => Below.heap_alloc _ _ _ hk
  have hba : base ≤ (Wc.alloc (.cells #[.string x.f0, .string x.f1] 49)).heap.size := by rw [World.size_alloc]; omega
  generalize hWA : Wc.alloc (.cells #[.string x.f0, .string x.f1] 49) = WA at *
  clear hWA
  generalize hvbE : Wc.heap.size = vb at *
  have HVB := Aside0.mk hvbE
  clear hvbE
  have hszF : (Tryd.prog.info? 49).map (·.size) = some 2 := by kernel_rfl
  have hov : ∀ lb cb, (callFunc 66 #[.slice (some ⟨vb, 0, none⟩) 1 1, .slice (some ⟨g, (i + 1) * 2, none⟩) lb cb]).run Tryd.prog WA = .ok (.value (.bool false)) WA := fun lb cb => by
    rw [run_callFunc_extern Tryd.func66 (by kernel_rfl) (by kernel_rfl) (by kernel_rfl) (e := Extern.SlicesOverlaps.overlaps #[22, 22] #[4]) (by kernel_rfl),
      Lib.run_overlaps_apart WA 22 4 49 Tryd.underlying22 2 Tryd.sizeOf49 ⟨vb, 0, none⟩ ⟨g, (i + 1) * 2, none⟩ 1 1 lb cb hgn 49 49 2 (c * 2) (by simp [World.shape?, hhv]) (by simp [World.shape?, hhg, hs]) (by omega) (blk_frozen hhv _) (blk_frozen hhv _)]
    rfl
  -- the elements from i on go one place up
  have hdl : (flatF (xs.drop i)).length = (xs.length - i) * 2 := by rw [flatF_length, List.length_drop]
  obtain ⟨cur1, hh1, hs1, ht1⟩ := setCells_row (flatF (xs.drop i)) ((i + 1) * 2) WA.drew cur hhg (by rw [hdl, hs]; omega)
  have hcur : ∀ q, q < xs.length * 2 → cur[q]? = (flatF xs)[q]? := fun q hq => by rw [← ht, List.getElem?_take, if_pos hq, Array.getElem?_toList]
  have hcp1 : ∀ ty dc sc, (Builtin.copy_ #[22, 22] ty #[.slice (some ⟨g, (i + 1) * 2, none⟩) (xs.length - i) dc, .slice (some ⟨g, i * 2, none⟩) (xs.length + 1 - i) sc]).run Tryd.prog WA.drew = .ok (goInt ((xs.length - i : Nat) : Int)) (WA.drew.setCells g ((i + 1) * 2) (flatF (xs.drop i))) := fun ty dc sc =>
    run_copy_cellsK WA.drew _ _ ty 49 2 g ((i + 1) * 2) (xs.length - i) dc ⟨g, i * 2, none⟩ (xs.length + 1 - i) sc (xs.length - i) (flatF (xs.drop i)) Tryd.underlying22 hszF (by simp only [Nat.min_def]; split <;> omega) hdl
      (fun j v hj => by
        have hjl := (List.getElem?_eq_some_iff.1 hj).1
        rw [hdl] at hjl
        rw [← flatF_drop, List.getElem?_drop] at hj
        rw [Addr.add_lit, cell_of_row WA.drew g _ cur _ (0, 0) hhg, hcur _ (by omega)]
        exact hj)
      (fun j hj => by rw [hdl] at hj; rw [cell_of_row WA.drew g _ cur _ (0, 0) hhg, Array.getElem?_eq_getElem (by omega)]; rfl)
      (fun j hj => blk_frozen (w := WA.drew) hhg _) (flatF_one _)
  have hg1 := grown_setCells WA.drew g ((i + 1) * 2) (flatF (xs.drop i))
  have hv1 : (WA.drew.setCells g ((i + 1) * 2) (flatF (xs.drop i))).heap[vb]? = some (.cells #[.string x.f0, .string x.f1] 49 (0, 0)) := (setCells_far _ _ vb hgn).trans hhv
  obtain ⟨W1, hW1⟩ : ∃ W1, W1 = WA.drew.setCells g ((i + 1) * 2) (flatF (xs.drop i)) := ⟨_, rfl⟩
  rw [← hW1] at hh1 hcp1 hg1 hv1
  obtain ⟨cur2, hh2, hs2, ht2⟩ := setCells_row (encF x) (i * 2) W1 cur1 hh1 (by show _ + 2 ≤ _; omega)
  have hcp2 : ∀ ty dc, (Builtin.copy_ #[22, 22] ty #[.slice (some ⟨g, i * 2, none⟩) (xs.length + 1 - i) dc, .slice (some ⟨vb, 0, none⟩) 1 1]).run Tryd.prog W1 = .ok (goInt ((1 : Nat) : Int)) (W1.setCells g (i * 2) (encF x)) := fun ty dc =>
    run_copy_cellsK W1 _ _ ty 49 2 g (i * 2) (xs.length + 1 - i) dc ⟨vb, 0, none⟩ 1 1 1 (encF x) Tryd.underlying22 hszF (by simp only [Nat.min_def]; split <;> omega) rfl
      (fun j v hj => by
        rw [Addr.add_lit, Nat.zero_add, cell_of_row W1 vb _ _ _ (0, 0) hv1, ← Array.getElem?_toList]
        exact hj)
      (fun j hj => by replace hj : j < 2 := hj; rw [cell_of_row W1 g _ cur1 _ (0, 0) hh1, Array.getElem?_eq_getElem (by omega)]; rfl)
      (fun j hj => blk_frozen hh1 _) (fun v hv => by simp [encF] at hv; rcases hv with rfl | rfl <;> rfl)
  have hg2 := grown_setCells W1 g (i * 2) (encF x)
  have HN := Aside0.mk (OwnF.mk (c := c) hbg hh2 (xs := xs.take i ++ x :: xs.drop i) (by rw [List.length_append, List.length_take, List.length_cons, List.length_drop]; omega) hc (by omega)
    (ins_cells cur cur1 cur2 xs x i c (by omega) hr hs (by rw [← flatF_take, ← ht, List.take_take, Nat.min_eq_left (by omega)]) ht1 ht2))
  have hlen : (xs.take i ++ x :: xs.drop i).length = xs.length + 1 := by rw [List.length_append, List.length_take, List.length_cons, List.length_drop]; omega
  have HG := Aside0.mk (((below_drew hgA.out).grown hg1 hba (fun k hk => by injection hk with hk; subst hk; exact hbg)).grown hg2 (Nat.le_trans hba hg1.size) (fun k hk => by injection hk with hk; subst hk; exact hbg))
  rw [hlen] at HN
  have HP1 := Aside0.mk hcp1
  have HK := Aside0.mk (show ∀ k, k < vb → some k ≠ some g → (W1.setCells g (i * 2) (encF x)).heap[k]? = Wc.heap[k]? from fun k hk hne => by
    have h : k ≠ g := fun e => hne (by rw [e])
    rw [setCells_far _ _ k h, hW1, setCells_far _ _ k h]
    exact hkA k hk)
  clear hkA
  generalize hW2 : W1.setCells g (i * 2) (encF x) = W2 at *
  clear hW2 hg1 hg2 hcp1 hh1 hh2 hs1 hs2 ht1 ht2 hv1 hcur hW1 hhv hhg hgA HO hh hs ht hdl
  unfold InsP
  have mixed : Tryd.prog.follows .mixedOrders = true := by kernel_rfl
  have hz2 : ¬ ((i : Int) = (xs.length : Int)) := by omega
  have hw1 : IntKind.i64.wrap ((i : Int) + 1) = (i : Int) + 1 := by rw [IntKind.wrap_i64]; omega
  have hb0 : (0 : Int) ≤ (i : Int) := by omega
  have hb1 : (0 : Int) ≤ (i : Int) + 1 := by omega
  have hin : i ≤ xs.length := by omega
  have htn : ((i : Int) + 1).toNat = i + 1 := by omega
  have hb2 : ¬ (c = i + 1) := by omega
  have hb3 : (i : Int) ≤ (xs.length : Int) + 1 := by omega
  have hb4 : ¬ (c = i) := by omega
  have hb5 : ¬ ((c : Int) < (xs.length : Int) + 1) := by omega
  have hb6 : (i : Int) + 1 ≤ (xs.length : Int) + 1 := by omega
  have hu := Tryd.underlying49
  go_enter Tryd.func56, Tryd.ntmps56
  go_wp2_with (simp only [hov])
  go_region_law_o (refine step_copy_runJ rfl (.tmp 73) (.tmp 76) 22 22 rfl (.slice (some ⟨g, (i + 1) * 2, none⟩) (xs.length - i) (c - (i + 1))) (.slice (some ⟨g, i * 2, none⟩) (xs.length + 1 - i) (c - i)) (by simp [Act.eval, Act.put]) (by simp [Act.eval, Act.put]) (HP1.out _ (c - (i + 1)) (c - i)) ?_)
  go_wp2_with (at_builtin; refine wpList_copy_runJ _ rfl (.tmp 80) (.tmp 81) 22 22 rfl _ _ rfl rfl (hcp2 _ _) ?_)
  go_ret
  exact ⟨_, rfl, HN.out, HG.out, fun k hk hne => HK.out k (by have := HVB.out; omega) hne⟩
theorem ins_cells2 (cur cur1 cur2 : Array Value) (xs : List S49) (x : S49) (i c : Nat) (hi : i ≤ xs.length) (hr : xs.length + 1 ≤ c) (hs : cur.size = c * 2) (ht : cur.toList.take (i * 2) = flatF (xs.take i))
    (h1 : cur1.toList = cur.toList.take (i * 2) ++ encF x ++ cur.toList.drop (i * 2 + (encF x).length))
    (h2 : cur2.toList = cur1.toList.take ((i + 1) * 2) ++ flatF (xs.drop i) ++ cur1.toList.drop ((i + 1) * 2 + (flatF (xs.drop i)).length)) : cur2.toList.take ((xs.take i ++ x :: xs.drop i).length * 2) = flatF (xs.take i ++ x :: xs.drop i) := by
  have hl : cur.toList.length = c * 2 := by simp [hs]
  have htl : (flatF (xs.take i) ++ encF x).length = (i + 1) * 2 := by rw [List.length_append, flatF_length, List.length_take]; show _ + 2 = _; omega
  have e1 : cur1.toList.take ((i + 1) * 2) = flatF (xs.take i) ++ encF x := by
    rw [h1, ht, ← htl, List.take_left]
  rw [h2, e1, flatF_append, flatF_cons, ← List.append_assoc]
  refine List.take_left' ?_
  rw [List.length_append, htl, flatF_length, List.length_drop, List.length_append, List.length_take, List.length_cons, List.length_drop]
  omega
set_option maxHeartbeats 4000000 in
set_option maxRecDepth 100000 in
theorem ins_grow (Wc : World) (g c base i : Nat) (xs : List S49) (x : S49) (HO : OwnF Wc base (.slice (some ⟨g, 0, none⟩) xs.length c) xs) (hb : base ≤ Wc.heap.size) (hi : i < xs.length) (hr : c < xs.length + 1) (hl : xs.length ≤ 1000) :
    Calls Tryd.prog 56 #[.slice (some ⟨g, 0, none⟩) xs.length c, .int .i64 (i : Int), .slice (some ⟨Wc.heap.size, 0, none⟩) 1 1] (Wc.alloc (.cells #[.string x.f0, .string x.f1] 49)) (InsP Wc base (.slice (some ⟨g, 0, none⟩) xs.length c) xs i x) := by
  obtain ⟨-, hbg, cur, hh, hn, hc, hs, ht⟩ := HO.open
  have hgl : g < Wc.heap.size := (Array.getElem?_eq_some_iff.1 hh).1
  have hhv : (Wc.alloc (.cells #[.string x.f0, .string x.f1] 49)).heap[Wc.heap.size]? = some (.cells #[.string x.f0, .string x.f1] 49 (0, 0)) := blk_new Wc _
  have hhg : (Wc.alloc (.cells #[.string x.f0, .string x.f1] 49)).heap[g]? = some (.cells cur 49 (0, 0)) := blk_alloc hh _
  have hgA := Aside0.mk ((Below.refl base Wc).alloc hb (.cells #[.string x.f0, .string x.f1] 49))
  have hkA : ∀ k, k < Wc.heap.size → (Wc.alloc (.cells #[.string x.f0, .string x.f1] 49)).heap[k]? = Wc.heap[k]? := fun k hk => Below.heap_alloc _ _ _ hk
  have hba : base ≤ (Wc.alloc (.cells #[.string x.f0, .string x.f1] 49)).heap.size := by rw [World.size_alloc]; omega
  have hsA : (Wc.alloc (.cells #[.string x.f0, .string x.f1] 49)).heap.size = Wc.heap.size + 1 := World.size_alloc ..
  generalize hWA : Wc.alloc (.cells #[.string x.f0, .string x.f1] 49) = WA at *
  clear hWA
  generalize hvbE : Wc.heap.size = vb at *
  have HVB := Aside0.mk hvbE
  clear hvbE
  have hszF : (Tryd.prog.info? 49).map (·.size) = some 2 := by kernel_rfl
  obtain ⟨i0, hi0, hz⟩ := Option.map_eq_some_iff.1 info49
  have hiz : i0.zero = some (.agg #[.string ⟨#[]⟩, .string ⟨#[]⟩]) := (Prod.mk.inj hz).1
  have hsz : i0.size = 2 := (Prod.mk.inj (Prod.mk.inj hz).2).1
  have hby : i0.bytes = 32 := (Prod.mk.inj (Prod.mk.inj hz).2).2
  have hcur : ∀ q, q < xs.length * 2 → cur[q]? = (flatF xs)[q]? := fun q hq => by rw [← ht, List.getElem?_take, if_pos hq, Array.getElem?_toList]
  have hold : (Builtin.firstCells i0.size i (.slice (some ⟨g, 0, none⟩) i c)).run Tryd.prog WA.drew = .ok (flatF (xs.take i)).toArray WA.drew := by
    rw [hsz]
    exact run_firstCells_some WA.drew 2 i ⟨g, 0, none⟩ i c (flatF (xs.take i)) (by rw [flatF_length, List.length_take, Nat.min_eq_left (by omega)]) (fun j v hj => by
      have hjl := (List.getElem?_eq_some_iff.1 hj).1
      rw [flatF_length, List.length_take, Nat.min_eq_left (by omega)] at hjl
      rw [← flatF_take, List.getElem?_take, if_pos hjl] at hj
      rw [Addr.add_lit, Nat.zero_add, cell_of_row WA.drew g _ cur _ (0, 0) hhg, hcur _ (by omega)]
      exact hj)
  have hkk : (xs.length : Int) + 1 - (i : Int) = ((xs.length + 1 - i : Nat) : Int) := by omega
  have hik : i + (xs.length + 1 - i) = xs.length + 1 := by omega
  have hrz := fun ty => Lib.run_append_grow_zeros WA 22 3 ty 49 i0 _ .i64 .i64 Tryd.underlying22 Tryd.underlying3 hi0 hiz (some ⟨g, 0, none⟩) i c (flatF (xs.take i)) hold (xs.length + 1 - i) (by omega) (by omega) (by omega) (by omega) (by rw [hby]; omega) (by rw [hby, hik]; exact growslice_fits hr (by omega))
  rw [hik] at hrz
  have hGn : xs.length + 1 ≤ grownCap WA (xs.length + 1) c 49 := grownCap_ge ..
  have hGm : grownCap WA (xs.length + 1) c 49 ≤ maxLen := grownCap_le_maxLen WA _ _ _ (by unfold maxLen; omega)
  generalize grownCap WA (xs.length + 1) c 49 = G at *
  obtain ⟨ROW, hROW⟩ : ∃ ROW : Array Value, ROW = (flatF (xs.take i)).toArray ++ Builtin.zeroCells (Value.agg #[.string ⟨#[]⟩, .string ⟨#[]⟩]).cells (xs.length + 1 - i) ++ Builtin.zeroCells (Value.agg #[.string ⟨#[]⟩, .string ⟨#[]⟩]).cells (G - (xs.length + 1)) := ⟨_, rfl⟩
  rw [← hROW] at hrz
  have hzc : (Value.agg #[.string ⟨#[]⟩, .string ⟨#[]⟩]).cells.size = 2 := by kernel_rfl
  have hRs : ROW.size = G * 2 := by
    rw [hROW]
    simp only [Array.size_append, List.size_toArray, flatF_length, List.length_take, Builtin.zeroCells, Array.size_map, Array.size_range, hzc]
    omega
  have hRt : ROW.toList.take (i * 2) = flatF (xs.take i) := by
    rw [hROW, Array.toList_append, Array.toList_append, List.append_assoc]
    exact List.take_left' (by rw [flatF_length, List.length_take]; omega)
  clear hROW
  have hgD := Aside0.mk ((below_drew hgA.out).alloc (show base ≤ WA.drew.heap.size from hba) (.cells ROW 49))
  have hsD : (WA.drew.alloc (.cells ROW 49)).heap.size = WA.heap.size + 1 := World.size_alloc ..
  have hkD : ∀ k, k < WA.heap.size → (WA.drew.alloc (.cells ROW 49)).heap[k]? = WA.heap[k]? := fun k hk => Below.heap_alloc WA.drew _ _ hk
  have hhN : (WA.drew.alloc (.cells ROW 49)).heap[WA.heap.size]? = some (.cells ROW 49 (0, 0)) := blk_new WA.drew _
  have hhv1 : (WA.drew.alloc (.cells ROW 49)).heap[vb]? = some (.cells #[.string x.f0, .string x.f1] 49 (0, 0)) := blk_alloc hhv _
  have hhg1 : (WA.drew.alloc (.cells ROW 49)).heap[g]? = some (.cells cur 49 (0, 0)) := blk_alloc hhg _
  generalize hWD : WA.drew.alloc (.cells ROW 49) = WD at *
  clear hWD hold
  generalize hNN : WA.heap.size = N at *
  have hNg : N ≠ g := by omega
  obtain ⟨cur1, hh1, hs1, ht1⟩ := setCells_row (encF x) (i * 2) WD ROW hhN (by show _ + 2 ≤ _; omega)
  have hcpA : ∀ ty dc, (Builtin.copy_ #[22, 22] ty #[.slice (some ⟨N, i * 2, none⟩) (xs.length + 1 - i) dc, .slice (some ⟨vb, 0, none⟩) 1 1]).run Tryd.prog WD = .ok (goInt ((1 : Nat) : Int)) (WD.setCells N (i * 2) (encF x)) := fun ty dc =>
    run_copy_cellsK WD _ _ ty 49 2 N (i * 2) (xs.length + 1 - i) dc ⟨vb, 0, none⟩ 1 1 1 (encF x) Tryd.underlying22 hszF (by simp only [Nat.min_def]; split <;> omega) rfl
      (fun j v hj => by
        rw [Addr.add_lit, Nat.zero_add, cell_of_row WD vb _ _ _ (0, 0) hhv1, ← Array.getElem?_toList]
        exact hj)
      (fun j hj => by replace hj : j < 2 := hj; rw [cell_of_row WD N _ ROW _ (0, 0) hhN, Array.getElem?_eq_getElem (by omega)]; rfl)
      (fun j hj => blk_frozen hhN _) (fun v hv => by simp [encF] at hv; rcases hv with rfl | rfl <;> rfl)
  have hg1 := grown_setCells WD N (i * 2) (encF x)
  have hhg2 : (WD.setCells N (i * 2) (encF x)).heap[g]? = some (.cells cur 49 (0, 0)) := (setCells_far _ _ g (Ne.symm hNg)).trans hhg1
  generalize hW1 : WD.setCells N (i * 2) (encF x) = W1 at *
  clear hW1
  have hdl : (flatF (xs.drop i)).length = (xs.length - i) * 2 := by rw [flatF_length, List.length_drop]
  obtain ⟨cur2, hh2, hs2, ht2⟩ := setCells_row (flatF (xs.drop i)) ((i + 1) * 2) W1.drew cur1 hh1 (by rw [hdl]; omega)
  have hcpB : ∀ ty dc sc, (Builtin.copy_ #[22, 22] ty #[.slice (some ⟨N, (i + 1) * 2, none⟩) (xs.length - i) dc, .slice (some ⟨g, i * 2, none⟩) (xs.length - i) sc]).run Tryd.prog W1.drew = .ok (goInt ((xs.length - i : Nat) : Int)) (W1.drew.setCells N ((i + 1) * 2) (flatF (xs.drop i))) := fun ty dc sc =>
    run_copy_cellsK W1.drew _ _ ty 49 2 N ((i + 1) * 2) (xs.length - i) dc ⟨g, i * 2, none⟩ (xs.length - i) sc (xs.length - i) (flatF (xs.drop i)) Tryd.underlying22 hszF (by simp only [Nat.min_def]; split <;> omega) hdl
      (fun j v hj => by
        have hjl := (List.getElem?_eq_some_iff.1 hj).1
        rw [hdl] at hjl
        rw [← flatF_drop, List.getElem?_drop] at hj
        rw [Addr.add_lit, cell_of_row W1.drew g _ cur _ (0, 0) hhg2, hcur _ (by omega)]
        exact hj)
      (fun j hj => by rw [hdl] at hj; rw [cell_of_row W1.drew N _ cur1 _ (0, 0) hh1, Array.getElem?_eq_getElem (by omega)]; rfl)
      (fun j hj => blk_frozen (w := W1.drew) hh1 _) (flatF_one _)
  have hg2 := grown_setCells W1.drew N ((i + 1) * 2) (flatF (xs.drop i))
  have hlen : (xs.take i ++ x :: xs.drop i).length = xs.length + 1 := by rw [List.length_append, List.length_take, List.length_cons, List.length_drop]; omega
  have HN := Aside0.mk (OwnF.mk (base := base) (c := G) (by omega) hh2 (xs := xs.take i ++ x :: xs.drop i) (by omega) hGm (by omega)
    (ins_cells2 ROW cur1 cur2 xs x i G (by omega) hGn hRs hRt ht1 ht2))
  rw [hlen] at HN
  have HG := Aside0.mk ((below_drew ((hgD.out.grown hg1 (by omega) (fun k hk => by injection hk with hk; subst hk; omega)))).grown hg2 (show base ≤ W1.heap.size from Nat.le_trans (by omega) hg1.size) (fun k hk => by injection hk with hk; subst hk; omega))
  have HK := Aside0.mk (show ∀ k, k < vb → some k ≠ some g → (W1.drew.setCells N ((i + 1) * 2) (flatF (xs.drop i))).heap[k]? = Wc.heap[k]? from fun k hk _ => by
    rw [setCells_far _ _ k (by omega)]
    refine (hg1.block k (by omega) (fun e => by injection e with e; omega)).trans ((hkD k (by omega)).trans (hkA k hk)))
  clear hkA hkD
  have HPB := Aside0.mk hcpB
  generalize hW2 : W1.drew.setCells N ((i + 1) * 2) (flatF (xs.drop i)) = W2 at *
  clear hW2 hg1 hg2 hcpB hh1 hh2 hs1 hs2 ht1 ht2 hhv1 hhg1 hhg2 hcur hhv hhg hhN hgA hgD HO hh hs ht hdl hRs hRt hiz hsz hby hz hi0 hsA hsD hlen
  unfold InsP
  rw [← hkk] at hrz
  have mixed : Tryd.prog.follows .mixedOrders = true := by kernel_rfl
  have hz2 : ¬ ((i : Int) = (xs.length : Int)) := by omega
  have hw1 : IntKind.i64.wrap ((i : Int) + 1) = (i : Int) + 1 := by rw [IntKind.wrap_i64]; omega
  have hb0 : (0 : Int) ≤ (i : Int) := by omega
  have hb1 : (0 : Int) ≤ (i : Int) + 1 := by omega
  have hin : i ≤ xs.length := by omega
  have htn : ((i : Int) + 1).toNat = i + 1 := by omega
  have hb2 : ¬ (G = i + 1) := by omega
  have hb3 : (i : Int) ≤ (xs.length : Int) + 1 := by omega
  have hb4 : ¬ (c = i) := by omega
  have hb5 : (c : Int) < (xs.length : Int) + 1 := by omega
  have hb6 : (i : Int) + 1 ≤ (xs.length : Int) + 1 := by omega
  have hb7 : ¬ (G = i) := by omega
  have hb8 : i ≤ c := by omega
  have hu := Tryd.underlying49
  clear hkk hik
  go_enter Tryd.func56, Tryd.ntmps56
  go_wp2_with (first
    | (at_builtin; refine Lib.wpList_append_run _ rfl _ _ _ _ rfl _ _ rfl rfl _ _ (hrz _) ?_)
    | (at_builtin; refine wpList_copy_runJ _ rfl (.tmp 43) (.tmp 44) 22 22 rfl _ _ rfl rfl (hcpA _ _) ?_))
  go_region_law_o (refine step_copy_runJ rfl (.tmp 50) (.tmp 53) 22 22 rfl (.slice (some ⟨N, (i + 1) * 2, none⟩) (xs.length - i) (G - (i + 1))) (.slice (some ⟨g, i * 2, none⟩) (xs.length - i) (c - i)) (by simp [Act.eval, Act.put]) (by simp [Act.eval, Act.put]) (HPB.out _ (G - (i + 1)) (c - i)) ?_)
  go_wp2
  go_ret
  exact ⟨_, rfl, HN.out, HG.out, fun k hk hne => HK.out k (by have := HVB.out; omega) hne⟩
/-- slices.Insert of one file at any place. -/
theorem insert_calls (Wc : World) (v : Value) (base i : Nat) (xs : List S49) (x : S49) (HO : OwnF Wc base v xs) (hb : base ≤ Wc.heap.size) (hi : i ≤ xs.length) (hl : xs.length ≤ 1000) :
    Calls Tryd.prog 56 #[v, .int .i64 (i : Int), .slice (some ⟨Wc.heap.size, 0, none⟩) 1 1] (Wc.alloc (.cells #[.string x.f0, .string x.f1] 49)) (InsP Wc base v xs i x) := by
  rcases HO.form with ⟨rfl, rfl⟩ | ⟨g, c, rfl⟩
  · have h0 : i = 0 := by simpa using hi
    subst h0
    exact ins_nil Wc base x hb
  · by_cases h1 : i = xs.length
    · subst h1
      exact ins_end Wc g c base xs x HO hb hl
    · by_cases h2 : xs.length + 1 ≤ c
      · exact ins_shift Wc g c base i xs x HO hb (by omega) h2
      · exact ins_grow Wc g c base i xs x HO hb (by omega) (by omega) hl
end Go.Proofs.YtnhhbmekjoanbaaDoor.P
namespace Go.Proofs.YtnhhbmekjoanbaaDoor.P
open Go Go.RowKit Go.Lib Go.Proofs.YtnhhbmekjoanbaaDoorW.PrintWords Go.Proofs.YtnhhbmekjoanbaaDoorW.PrintLast Go.Proofs.YtnhhbmekjoanbaaDoorW.PrintMore
set_option linter.unusedVariables false
set_option linter.unusedSimpArgs false
theorem flatF_get {xs : List S49} {q r : Nat} {x : S49} (h : xs[q]? = some x) (hr : r < 2) : (flatF xs)[q * 2 + r]? = (encF x)[r]? := by
  rw [← List.getElem?_drop, flatF_drop]
  obtain ⟨hl, hx⟩ := List.getElem?_eq_some_iff.1 h
  rw [List.drop_eq_getElem_cons hl, flatF_cons, hx, List.getElem?_append_left hr]
theorem flatF_cells {w : World} {ad : Addr} {n : Nat} {xs : List S49} (h : Kd.C k49 w (some ad) n xs) : ∀ j u, (flatF xs)[j]? = some u → w.cell? (ad.add j) = some u := by
  intro j u hj
  have hjl := (List.getElem?_eq_some_iff.1 hj).1
  rw [flatF_length] at hjl
  have h0 := h.1
  obtain ⟨ad', e, hc⟩ := h.2.2 (by omega)
  injection e with e
  subst e
  have hq : j / 2 < xs.length := by omega
  obtain ⟨c, _, hK, hcell⟩ := hc (j / 2) _ (List.getElem?_eq_getElem hq)
  obtain rfl := k49_open hK
  have h1 := flatF_get (List.getElem?_eq_getElem hq) (r := j % 2) (by omega)
  rw [show j / 2 * 2 + j % 2 = j by omega, hj] at h1
  have h2 := hcell (j % 2) u h1.symm
  rw [show j / 2 * k49.sz + j % 2 = j by show j / 2 * 2 + j % 2 = j; omega] at h2
  exact h2
set_option maxHeartbeats 4000000 in
set_option maxRecDepth 100000 in
theorem cloneF_some (ad : Addr) (c : Nat) (xs : List S49) (w : World) (h : Kd.C k49 w (some ad) xs.length xs) (hl : xs.length ≤ 1000) :
    Calls Tryd.prog 37 #[.slice (some ad) xs.length c] w fun e w' => ∃ v', e = .returned v' ∧ OwnF w' w.heap.size v' xs ∧ Below w.heap.size w w' := by
  have q22 : ∀ (w : World) (a : Option Addr) (n c n' c' : Nat), (binOp .eql 22 (.slice a n c) (.slice none n' c')).run Tryd.prog w = .ok (.bool a.isNone) w := fun w a n c n' c' => Lib.run_eql_slice_nil w _ _ a n c n' c' Tryd.underlying22
  have u22 : ∀ w, Sem.run Tryd.prog (underlying 22) w = .ok (TypeDesc.slice 49) w := run_underlying Tryd.underlying22
  obtain ⟨i0, hi0, hz⟩ := Option.map_eq_some_iff.1 info49
  have e1 := (Prod.mk.inj hz).1
  have e2 := (Prod.mk.inj (Prod.mk.inj hz).2).1
  have e3 := (Prod.mk.inj (Prod.mk.inj hz).2).2
  have HC := Aside0.mk (flatF_cells h)
  have HL := Aside0.mk hl
  clear h hl hz
  obtain ⟨b, off, sp⟩ := ad
  go_enter Tryd.func37, Tryd.ntmps37
  go_wp2_with (at_builtin; refine wpList_append_own _ rfl _ _ 22 rfl w.heap.size 49 i0 _ 2 32 Tryd.underlying22 hi0 e1 e2 e3 rfl (by decide) _ _ _ rfl (World.ownsRow_made w #[] 0 (Nat.le_refl _) (Nat.zero_le _) (by simp)) ⟨b, off, sp⟩ xs.length c (flatF xs) rfl ?qc1 ?qc2 ?qc3 ?qc4 ?qc5 ?qc6 ?_)
  case qc1 => exact flatF_length xs
  case qc2 =>
    intro j u hj
    exact Lib.cell?_alloc_some _ (HC.out j u hj)
  case qc3 => exact flatF_one xs
  case qc4 => have := HL.out; unfold maxLen; omega
  case qc5 => have := HL.out; omega
  case qc6 => simp
  intro v' w1 hown hgrow hnil
  replace hown := Aside0.mk hown
  replace hgrow := Aside0.mk hgrow
  clear hnil
  go_wp2
  go_ret
  refine ⟨v', rfl, hown.out, ?_⟩
  exact ((Below.refl _ w).alloc (Nat.le_refl _) _).grown hgrow.out (by simp) (by intro k hk; simp [Value.ownBlock] at hk; omega)
set_option maxHeartbeats 4000000 in
set_option maxRecDepth 100000 in
theorem cloneF_none (c : Nat) (w : World) : Calls Tryd.prog 37 #[.slice none 0 c] w fun e w' => ∃ v', e = .returned v' ∧ OwnF w' w.heap.size v' [] ∧ Below w.heap.size w w' := by
  have q22 : ∀ (w : World) (a : Option Addr) (n c n' c' : Nat), (binOp .eql 22 (.slice a n c) (.slice none n' c')).run Tryd.prog w = .ok (.bool a.isNone) w := fun w a n c n' c' => Lib.run_eql_slice_nil w _ _ a n c n' c' Tryd.underlying22
  go_enter Tryd.func37, Tryd.ntmps37
  go_wp2
  go_ret
  exact ⟨_, rfl, ⟨rfl, .inl ⟨rfl, rfl⟩⟩, Below.refl _ _⟩
theorem clone_calls (A0 : Option Addr) (c : Nat) (xs : List S49) (w : World) (h : Kd.C k49 w A0 xs.length xs) (hl : xs.length ≤ 1000) :
    Calls Tryd.prog 37 #[.slice A0 xs.length c] w fun e w' => ∃ v', e = .returned v' ∧ OwnF w' w.heap.size v' xs ∧ Below w.heap.size w w' := by
  cases A0 with
  | some ad => exact cloneF_some ad c xs w h hl
  | none =>
    have h0 : xs = [] := by
      cases xs with
      | nil => rfl
      | cons x r =>
        obtain ⟨ad, e, _⟩ := h.2.2 (by simp)
        cases e
    subst h0
    exact cloneF_none c w
end Go.Proofs.YtnhhbmekjoanbaaDoor.P
namespace Go.Proofs.YtnhhbmekjoanbaaDoor.P
open Go.Shelf Go.RowKit Go.Lib Go.Sort Go.Proofs.YtnhhbmekjoanbaaDoorW.PrintWords Go.Proofs.YtnhhbmekjoanbaaDoorW.PrintLast Go.Proofs.YtnhhbmekjoanbaaDoorW.PrintMore
set_option linter.unusedVariables false
theorem holds_flat {w : World} {g : Nat} {cur F : Array Value} {e : TypeId} (hb : w.heap[g]? = some (.cells cur e (0, 0))) (ht : cur.toList.take F.size = F.toList) : Holds id w g 0 F := by
  intro j hj
  refine ⟨?_, by simp [World.frozen?, hb]⟩
  have h1 : (cur.toList.take F.size)[j]? = F.toList[j]? := by rw [ht]
  rw [List.getElem?_take_of_lt hj] at h1
  simp only [World.cell?, hb, Nat.zero_add]
  simp only [Option.isSome_none, Bool.false_eq_true, if_false]
  rw [← Array.getElem?_toList, h1]
  simp [hj]
theorem heap_flat {w : World} {g n : Nat} {os : Array Obj} {cur : Array Value} {e : TypeId} (F : Array Value) (hb : w.heap[g]? = some (.cells cur e (0, 0))) :
    (grow (putRow id (Sort.ahead w n) g 0 F) os).heap[g]? = some (.cells (putCells id 0 F cur) e (0, 0)) := by
  have hg : g < w.heap.size := (Array.getElem?_eq_some_iff.1 hb).1
  rw [heap_grow_old _ _ (by simpa using hg)]
  simp [putRow, mapBlock, Sort.ahead, Array.getElem?_modify, hb, onCells]
theorem grown_flat {w : World} {g n : Nat} {os : Array Obj} (F : Array Value) : w.grownBy (grow (putRow id (Sort.ahead w n) g 0 F) os) (some g) := by
  refine ⟨rfl, rfl, rfl, by simp, fun k hk hne => ?_⟩
  rw [heap_grow_old _ _ (by simpa using hk)]
  have : g ≠ k := fun e => hne (by rw [e])
  simp [putRow, mapBlock, Sort.ahead, Array.getElem?_modify, this]
theorem take_flat (cur F : Array Value) (h : F.size ≤ cur.size) : (putCells id 0 F cur).toList.take F.size = F.toList := by
  apply List.ext_getElem?
  intro j
  by_cases hj : j < F.size
  · rw [List.getElem?_take_of_lt hj, Array.getElem?_toList]
    simp [putCells, hj, show j < cur.size by omega]
  · rw [List.getElem?_take_eq_none (by omega), List.getElem?_eq_none (by simp; omega)]
theorem reps_flat : ∀ (xs : List S45) (inner : List Value), Reps (fun (p : S45) c => c = encOp p) 3 xs inner → inner = (xs.map encOp).flatten
  | [], inner, h => by
    have := h.1
    simp at this
    rw [this]; rfl
  | x :: r, inner, h => by
    have h0 := h.2 0 x rfl
    rw [Nat.zero_mul, List.drop_zero] at h0
    have hr : Reps (fun (p : S45) c => c = encOp p) 3 r (inner.drop 3) := by
      refine ⟨by have := h.1; rw [List.length_drop, this, List.length_cons]; omega, fun j p hp => ?_⟩
      have h2 := h.2 (j + 1) p hp
      rw [List.drop_drop, show 3 + j * 3 = (j + 1) * 3 by omega]
      exact h2
    rw [List.map_cons, List.flatten_cons, ← reps_flat r _ hr, ← h0, List.take_append_drop]
theorem flat_reps' (w : World) (base : Nat) (ok : Nat → Prop) : ∀ (ys pre : List S45) (inner : List Value), Reps (k45.M w base ok) 3 pre inner → Reps (k45.M w base ok) 3 (pre ++ ys) (inner ++ (ys.map encOp).flatten)
  | [], pre, inner, h => by simpa using h
  | y :: r, pre, inner, h => by
    have h1 := flat_reps' w base ok r (pre ++ [y]) (inner ++ encOp y) (Reps.snoc h (k45_mkM w base ok y) rfl)
    rw [List.append_assoc, List.append_assoc] at h1
    exact h1
theorem flat_reps (w : World) (base : Nat) (ok : Nat → Prop) (ys : List S45) : Reps (k45.M w base ok) 3 ys (ys.map encOp).flatten :=
  flat_reps' w base ok ys [] [] (Reps.none _ _)
theorem flat_size (d : Array S45) : (flatK encOp 3 d).size = d.size * 3 := size_flatK ..
theorem sorts_ops : SortsOps := by
  intro xs v w W hR hB hl
  obtain ⟨h0, inner, ho, hr⟩ := hR
  have hin := reps_flat xs inner ⟨hr.1, fun j p hp => k45_openM (hr.2 j p hp)⟩
  rcases ho.2 with ⟨rfl, hz⟩ | ⟨g, cap, cur, rfl, hbase, hg, hc1, hc2, hcs, htk⟩
  · have hx : xs = [] := List.eq_nil_of_length_eq_zero hz
    subst hx
    refine (AnyF.slices_SortFunc_none Tryd.sortOps none 0 _ W).mono ?_
    rintro e w' ⟨rfl, rfl⟩
    exact ⟨rfl, [], ⟨List.Perm.refl _, List.Pairwise.nil⟩, ⟨Kd.R_nil ..⟩, ⟨hB⟩⟩
  · have hfl : (flatK encOp 3 xs.toArray).toList = inner := by rw [flatK_list encOp 3 (fun _ => rfl) (by decide), hin]
    have hfs : (flatK encOp 3 xs.toArray).size = xs.length * 3 := by rw [flat_size]; simp
    have hH : HoldsK encOp 3 W g 0 xs.toArray := holds_flat hg (by rw [hfs, hfl]; exact htk)
    have hgl : g < W.heap.size := (Array.getElem?_eq_some_iff.1 hg).1
    have hs := sort_ops g 0 cap xs.toArray W hH hgl (by simp; omega)
    rw [show xs.toArray.size = xs.length by simp] at hs
    refine hs.mono ?_
    rintro e w' ⟨rfl, d', n, os, hp, hsd, rfl⟩
    have hds : d'.size = xs.length := by rw [hp.1]; simp
    have hperm : d'.toList.Perm xs := by
      have h3 := hp.2.2
      rw [show d'.extract 0 xs.length = d' by rw [← hds, Array.extract_size], show xs.toArray.extract 0 xs.length = xs.toArray by rw [show xs.length = xs.toArray.size by simp, Array.extract_size]] at h3
      simpa using h3
    refine ⟨rfl, d'.toList, ⟨hperm, ?_⟩, ⟨?_⟩, ⟨?_⟩⟩
    · rw [List.pairwise_iff_getElem]
      intro i j hi hj hij
      have h4 := hsd i j (Nat.zero_le _) hij (by simpa [hds] using hj)
      unfold ltOf at h4
      simp only [decide_eq_false_iff_not] at h4
      rw [getElem!_pos d' j (by simpa using hj), getElem!_pos d' i (by simpa using hi)] at h4
      simpa using h4
    · refine ⟨h0, (d'.toList.map encOp).flatten, ⟨?_, .inr ⟨g, cap, _, ?_, hbase, heap_flat _ hg, ?_, hc2, ?_, ?_⟩⟩, flat_reps _ _ _ _⟩
      · rw [← flatK_list encOp 3 (fun _ => rfl) (by decide), Array.length_toList, flat_size, Array.length_toList]; rfl
      · simp [hds]
      · simp [hds]; omega
      · simp [putCells, hcs]
      · rw [show k45.sz = 3 from rfl] at *
        rw [← flatK_list encOp 3 (fun _ => rfl) (by decide), show d'.toList.length * 3 = (flatK encOp 3 d').size by rw [flat_size]; simp]
        refine take_flat cur _ ?_
        rw [flat_size, hcs, hds]
        exact Nat.mul_le_mul_right 3 hc1
    · exact hB.grown (grown_flat _) (below_size hB) (fun k hk => by cases hk; exact hbase)
end Go.Proofs.YtnhhbmekjoanbaaDoor.P
namespace Go.Proofs.YtnhhbmekjoanbaaDoor.P
open Go Go.RowKit Go.Proofs.YtnhhbmekjoanbaaDoorW.PrintWords Go.Proofs.YtnhhbmekjoanbaaDoorW.PrintLast Go.Proofs.YtnhhbmekjoanbaaDoorW.PrintMore
attribute [local go_sem] max2_int min2_int max_two min_two max_three min_three max_four min_four
set_option linter.unusedVariables false
set_option linter.unusedSimpArgs false
/-- The place of a path among files. -/
def atF (p : ByteArray) (xs : List S49) : Nat := binF xs p xs.length 0 xs.length
def isF (p : ByteArray) (xs : List S49) : Bool := decide (atF p xs < xs.length) && (cmpS (rd_T49 xs (atF p xs : Int)).f0 p == 0)
theorem binF_le (l : List S49) (p : ByteArray) : ∀ (k i j : Nat), i ≤ j → binF l p k i j ≤ j ∧ i ≤ binF l p k i j
  | 0, i, j, h => ⟨h, Nat.le_refl _⟩
  | k + 1, i, j, h => by
    rw [binF]
    split
    · split
      · have := binF_le l p k ((i + j) / 2 + 1) j (by omega); omega
      · have := binF_le l p k i ((i + j) / 2) (by omega); omega
    · omega
theorem atF_le (p : ByteArray) (xs : List S49) : atF p xs ≤ xs.length := (binF_le xs p _ 0 _ (Nat.zero_le _)).1
/-- The set: a block of one cell, which holds a row of files of one's own. -/
def SetP (w0 W : World) (base gs : Nat) (xs : List S49) : Prop := ∃ v, W.heap[gs]? = some (.cells #[v] 60 (0, 0)) ∧ OwnF W base v xs ∧ Below base w0 W ∧ base ≤ gs
def AppP (w0 : World) (base gs : Nat) (r : Int) (xs : List S49) (e : Ending) (w' : World) : Prop := e = .returned (.int .i64 r) ∧ Below base w0 w' ∧ (r = 0 → SetP w0 w' base gs xs)
theorem OwnF.below {w w' : World} {base : Nat} {v : Value} {xs : List S49} (h : OwnF w base v xs) (hb : Below w.heap.size w w') : OwnF w' base v xs := OwnF.of (Kd.R_below h.to hb)
theorem own_C {w : World} {base : Nat} {A : Option Addr} {n c : Nat} {xs : List S49} (h : OwnF w base (.slice A n c) xs) (hl : xs.length ≤ 1000) : n = xs.length ∧ xs.length ≤ c ∧ Kd.C k49 w A xs.length xs := by
  rcases h.2 with ⟨h1, h2⟩ | ⟨g, c', cur, h1, h2, h3, h4, h5, h6, h7⟩
  · cases h1
    have : xs = [] := List.eq_nil_of_length_eq_zero h2
    subst this
    exact ⟨rfl, Nat.le_refl _, rfl, by decide, fun h => by simp at h⟩
  · injection h1 with ha hb hc
    subst ha; subst hb; subst hc
    refine ⟨rfl, h4, rfl, by omega, fun _ => ⟨_, rfl, fun j p hj => ⟨_, rfl, k49_mk w p, fun i u hu => ?_⟩⟩⟩
    have hjl := (List.getElem?_eq_some_iff.1 hj).1
    have hi : i < 2 := by have := (List.getElem?_eq_some_iff.1 hu).1; simpa using this
    have h8 := flatF_get hj hi
    rw [show (encF p)[i]? = some u from hu, ← h7, List.getElem?_take, if_pos (by omega), Array.getElem?_toList] at h8
    rw [Addr.add_lit, Nat.zero_add, cell_of_row w g _ cur _ (0, 0) h3]
    exact h8
theorem OwnF.far {w : World} {base : Nat} {v : Value} {xs : List S49} (h : OwnF w base v xs) {p : Addr} (hp : ∀ g, v.ownBlock = some g → g ≠ p.block) (u : Value) : OwnF (w.setCell p u) base v xs :=
  own_move h (fun k hk => Below.heap_setCell w p u k (hp k hk))
theorem OwnF.put {w : World} {base g n c i : Nat} {xs : List S49} (h : OwnF w base (.slice (some ⟨g, 0, none⟩) n c) xs) (hi : i < xs.length) (d : ByteArray) : OwnF (w.setCell ⟨g, i * 2 + 1, none⟩ (.string d)) base (.slice (some ⟨g, 0, none⟩) n c) (xs.set i ⟨(rd_T49 xs (i : Int)).f0, d⟩) := by
  obtain ⟨rfl, hb, cur, hh, hn, hc, hs, ht⟩ := h.open
  obtain ⟨cur', h3, h4, h5⟩ := setCells_row [.string d] (i * 2 + 1) w cur hh (by simp; omega)
  have hlen : (xs.set i (⟨(rd_T49 xs (i : Int)).f0, d⟩ : S49)).length = xs.length := List.length_set ..
  have hl : cur.toList.length = c * 2 := by simp [hs]
  have hm := OwnF.mk (base := base) (c := c) (xs := xs.set i (⟨(rd_T49 xs (i : Int)).f0, d⟩ : S49)) hb h3 (by rw [hlen]; exact hn) hc (by rw [h4, hs]) ?_
  · rw [hlen] at hm
    exact hm
  · rw [hlen, rdF_get xs i hi]
    have hx := List.set_eq_take_append_cons_drop (l := xs) (i := i) (a := (⟨xs[i].f0, d⟩ : S49))
    rw [hx, if_pos hi, flatF_append, flatF_cons, ← flatF_take, ← flatF_drop, ← ht, h5]
    apply List.ext_getElem?
    intro j
    rw [List.getElem?_take]
    by_cases hj : j < xs.length * 2
    · rw [if_pos hj]
      by_cases h1 : j < i * 2
      · rw [List.getElem?_append_left (by rw [List.length_append, List.length_take, hl]; simp; omega), List.getElem?_append_left (by rw [List.length_take, hl]; omega), List.getElem?_take, if_pos (by omega),
          List.getElem?_append_left (by rw [List.length_take, List.length_take, hl]; omega), List.getElem?_take, if_pos h1, List.getElem?_take, if_pos hj]
      · have hlt1 : (List.take (i * 2) (List.take (xs.length * 2) cur.toList)).length = i * 2 := by rw [List.length_take, List.length_take, hl]; omega
        rw [List.getElem?_append_right (l₁ := List.take (i * 2) (List.take (xs.length * 2) cur.toList)) (by rw [hlt1]; omega), hlt1]
        by_cases h2 : j = i * 2
        · subst h2
          rw [List.getElem?_append_left (by rw [List.length_append, List.length_take, hl]; simp; omega), List.getElem?_append_left (by rw [List.length_take, hl]; omega), List.getElem?_take, if_pos (by omega), Nat.sub_self]
          have h8 := flatF_get (List.getElem?_eq_getElem hi) (r := 0) (by omega)
          rw [← ht, Nat.add_zero, List.getElem?_take, if_pos hj] at h8
          rw [h8]
          rfl
        · by_cases h3 : j = i * 2 + 1
          · subst h3
            rw [List.getElem?_append_left (by rw [List.length_append, List.length_take, hl]; simp; omega), List.getElem?_append_right (by rw [List.length_take, hl]; omega)]
            rw [List.length_take, hl, Nat.min_eq_left (by omega), Nat.sub_self, show i * 2 + 1 - i * 2 = 1 by omega]
            rfl
          · rw [List.getElem?_append_right (by rw [List.length_append, List.length_take, hl]; simp; omega), List.length_append, List.length_take, hl, List.getElem?_drop,
              List.getElem?_append_right (by show 2 ≤ _; omega), List.getElem?_drop, List.getElem?_take, if_pos (by show _ + (_ - 2) < _; omega)]
            congr 1
            show i * 2 + 1 + 1 + _ = (i + 1) * 2 + (_ - 2)
            simp
            omega
    · rw [if_neg hj, List.getElem?_eq_none]
      rw [List.length_append, List.length_append, List.length_take, List.length_take, List.length_drop, List.length_take, hl]
      show _ + (2 + _) ≤ _
      omega
end Go.Proofs.YtnhhbmekjoanbaaDoor.P
namespace Go.Proofs.YtnhhbmekjoanbaaDoor.P
open Go Go.RowKit Go.Proofs.YtnhhbmekjoanbaaDoorW.PrintWords Go.Proofs.YtnhhbmekjoanbaaDoorW.PrintLast Go.Proofs.YtnhhbmekjoanbaaDoorW.PrintMore Go.Proofs.YtnhhbmekjoanbaaDoor.Rg
attribute [local go_sem] Oper.semAt_some
set_option linter.unusedVariables false
set_option linter.unusedSimpArgs false
def flatO (xs : List S45) : List Value := (xs.map encOp).flatten
theorem flatO_snoc (xs : List S45) (x : S45) : flatO (xs ++ [x]) = flatO xs ++ encOp x := by unfold flatO; simp
/-- A row of ops of one's own. -/
def OwnO (w : World) (base : Nat) (v : Value) (xs : List S45) : Prop := w.ownsRow base 45 3 v xs.length (flatO xs)
theorem OwnO.to {w : World} {base : Nat} {v : Value} {xs : List S45} (h : OwnO w base v xs) : Kd.R k45 45 w base (fun _ => True) v xs :=
  ⟨fun _ _ => trivial, _, h, flat_reps _ _ _ _⟩
theorem OwnO.of {w : World} {base : Nat} {ok : Nat → Prop} {v : Value} {xs : List S45} (h : Kd.R k45 45 w base ok v xs) : OwnO w base v xs := by
  obtain ⟨_, inner, ho, hr⟩ := h
  rw [reps_flat xs inner ⟨hr.1, fun j p hp => k45_openM (hr.2 j p hp)⟩] at ho
  exact ho
theorem OwnO.below {w w' : World} {base : Nat} {v : Value} {xs : List S45} (h : OwnO w base v xs) (hb : Below w.heap.size w w') : OwnO w' base v xs := OwnO.of (Kd.R_below h.to hb)
theorem OwnO.far {w : World} {base : Nat} {v : Value} {xs : List S45} (h : OwnO w base v xs) {p : Addr} (hp : p.block < base) (u : Value) : OwnO (w.setCell p u) base v xs :=
  own_move h (fun k hk => Below.heap_setCell w p u k (by have := own_base h k hk; omega))
theorem OwnO.putObj {w : World} {base : Nat} {v : Value} {xs : List S45} (h : OwnO w base v xs) {l : Nat} (o' : Obj) (hl : ∃ o, w.heap[l]? = some o ∧ o.isCells = false) : OwnO (w.putObj l o') base v xs := by
  obtain ⟨o, h1, h2⟩ := hl
  exact ownsRow_putObj h o' h1 h2
theorem OwnO.lower {w : World} {base base' : Nat} {v : Value} {xs : List S45} (h : OwnO w base v xs) (hb : base' ≤ base) : OwnO w base' v xs := own_weaken h hb
theorem OwnO.slice {w : World} {base : Nat} {v : Value} {xs : List S45} (h : OwnO w base v xs) : ∃ A c, v = .slice A xs.length c ∧ xs.length ≤ c ∧ Kd.C k45 w A xs.length xs := by
  obtain ⟨A, c, rfl⟩ := Kd.R_slice h.to
  exact ⟨A, c, rfl, (Kd.R_reads' h.to).2.1, (Kd.R_reads' h.to).2.2⟩
def DecI (w : World) (pre : List (S45 × Bool)) (W : World) : Prop :=
  W.heap[w.heap.size]? = some (.cells #[.slice none 0 0] 30 (0, 0)) ∧ W.heap[w.heap.size + 1]? = some (.cells #[.int .i64 0] 32 (0, 0)) ∧
  (∃ v, W.heap[w.heap.size + 2]? = some (.cells #[v] 30 (0, 0)) ∧ OwnO W (w.heap.size + 4) v (pre.map Prod.fst)) ∧ Below w.heap.size w W ∧ ∀ p ∈ pre, p.2 = true
def DecX (w : World) (pre : List (S45 × Bool)) (W : World) : Prop :=
  ∃ p x, pre = p ++ [x] ∧ x.2 = false ∧ W.heap[w.heap.size]? = some (.cells #[.slice none 0 0] 30 (0, 0)) ∧ W.heap[w.heap.size + 1]? = some (.cells #[.int .i64 1] 32 (0, 0)) ∧ Below w.heap.size w W
theorem decI_calm (w : World) : Rg.Calm (w.heap.size + 3) (DecI w) :=
  ⟨fun ⟨h1, h2, ⟨v, h3, h4⟩, h5, h6⟩ hb => ⟨held_grow h1 hb, held_grow h2 hb, ⟨v, held_grow h3 hb, h4.below hb⟩, below_step h5 hb, h6⟩,
   fun u ⟨h1, h2, ⟨v, h3, h4⟩, h5, h6⟩ => ⟨held_cell h1 (by omega) u, held_cell h2 (by omega) u, ⟨v, held_cell h3 (by omega) u, h4.far (by show _ + 3 < _; omega) u⟩, h5.setCell (by show _ ≤ _ + 3; omega) u, h6⟩⟩
theorem decX_calm (w : World) : Rg.Calm (w.heap.size + 3) (DecX w) :=
  ⟨fun ⟨p, x, h1, h2, h3, h4, h5⟩ hb => ⟨p, x, h1, h2, held_grow h3 hb, held_grow h4 hb, below_step h5 hb⟩,
   fun u ⟨p, x, h1, h2, h3, h4, h5⟩ => ⟨p, x, h1, h2, held_cell h3 (by omega) u, held_cell h4 (by omega) u, h5.setCell (by show _ ≤ _ + 3; omega) u⟩⟩
theorem decI_books (w : World) : Rg.Books (w.heap.size + 4) (DecI w) :=
  fun k o hk ⟨h1, h2, ⟨v, h3, h4⟩, h5, h6⟩ ho => ⟨(World.putObj_heap_other (by omega)).trans h1, (World.putObj_heap_other (by omega)).trans h2, ⟨v, (World.putObj_heap_other (by omega)).trans h3, h4.putObj o ho⟩, put_below o h5 (by omega), h6⟩
theorem decX_books (w : World) : Rg.Books (w.heap.size + 4) (DecX w) :=
  fun k o hk ⟨p, x, h1, h2, h3, h4, h5⟩ ho => ⟨p, x, h1, h2, (World.putObj_heap_other (by omega)).trans h3, (World.putObj_heap_other (by omega)).trans h4, put_below o h5 (by omega)⟩
theorem at3 (w : World) (o1 o2 o3 : Obj) : (((w.alloc o1).alloc o2).alloc o3).heap[w.heap.size]? = some o1 ∧ (((w.alloc o1).alloc o2).alloc o3).heap[w.heap.size + 1]? = some o2 ∧ (((w.alloc o1).alloc o2).alloc o3).heap[w.heap.size + 2]? = some o3 := by
  refine ⟨blk_alloc (blk_alloc (blk_new w _) _) _, blk_alloc ?_ _, ?_⟩
  · have := blk_new (w.alloc o1) o2; rwa [World.size_alloc] at this
  · have := blk_new ((w.alloc o1).alloc o2) o3; rwa [World.size_alloc, World.size_alloc] at this
theorem below3 (w : World) (o1 o2 o3 : Obj) : Below w.heap.size w (((w.alloc o1).alloc o2).alloc o3) := (((Below.refl _ w).alloc (Nat.le_refl _) _).alloc (by simp) _).alloc (by simp; omega) _
theorem res_dec {tmps : Array Value} {W : World} {r1 r2 : Nat} {v : Value} {i : Int} (h1 : tmps.getD 2 undef = .pointer (some ⟨r1, 0, none⟩)) (h2 : tmps.getD 3 undef = .pointer (some ⟨r2, 0, none⟩)) (g1 : W.cell? ⟨r1, 0, none⟩ = some v) (g2 : W.cell? ⟨r2, 0, none⟩ = some (.int .i64 i)) (hv : ∃ A n c, v = .slice A n c) :
    (results Tryd.f28 tmps).run Tryd.prog W = .ok (.tuple #[v, .int .i64 i]) W := by
  have e : Tryd.f28.results = #[.cell 2 30, .cell 3 32] := rfl
  obtain ⟨A, n, c, rfl⟩ := hv
  unfold results
  rw [e]
  simp only [List.mapM_toArray, Array.mapM_eq_mapM_toList, List.mapM_cons, List.mapM_nil, h1, h2]
  go_simp
/-- What comes of a text. -/
def decB (s : ByteArray) : List S45 × Int :=
  if (opsF s.size s).2 = true ∧ (encB ⟨#[]⟩ (opsF s.size s).1).2 = 0 ∧ (encB ⟨#[]⟩ (opsF s.size s).1).1 = s then ((opsF s.size s).1, 0) else ([], 1)
theorem opsF_len : ∀ (k : Nat) (s : ByteArray), (opsF k s).1.length ≤ k
  | 0, _ => Nat.le_refl _
  | k + 1, s => by
    rw [opsF]
    split
    · exact Nat.zero_le _
    · split
      · rw [List.length_cons]; have := opsF_len k (firstB s).2.2; omega
      · exact Nat.zero_le _
theorem eachF_len : ∀ (k : Nat) (s : ByteArray), (eachF k s).length ≤ k
  | 0, _ => Nat.le_refl _
  | k + 1, s => by
    rw [eachF]
    split
    · exact Nat.zero_le _
    · split
      · rw [List.length_cons]; have := eachF_len k (firstB s).2.2; omega
      · rw [List.length_singleton]; omega
theorem grown_low {W w1 : World} {b k : Nat} {v : Value} {xs : List S45} {tmp : Obj} (hO : OwnO W b v xs) (hg : (W.alloc tmp).grownBy w1 v.ownBlock) (hk : k < W.heap.size) (hkb : k < b) : w1.heap[k]? = W.heap[k]? :=
  (hg.block k (by rw [World.size_alloc]; omega) (fun e => by have := own_base hO k e.symm; omega)).trans (Below.heap_alloc _ _ _ hk)
set_option maxHeartbeats 8000000 in
set_option maxRecDepth 100000 in
theorem decode_any (s : ByteArray) (hs : s.size ≤ 100000) (w : World) :
    Calls Tryd.prog 28 #[.string s] w fun e w' => ∃ v, e = .returned (.tuple #[v, .int .i64 (decB s).2]) ∧ OwnO w' w.heap.size v (decB s).1 ∧ Below w.heap.size w w' := by
  have HS := Aside0.mk hs
  clear hs
  have hu := Tryd.underlying45
  refine (callsIn_wide (n := 3)).1 ?_
  refine callsIn_of_wp_marks Tryd.func28 rfl trivial ?_ rfl
  simp only [Tryd.ntmps28, List.size_toArray, List.length_cons, List.length_nil, Nat.reduceAdd, Nat.reduceSub, Array.replicate_succ, Array.replicate_zero, List.push_toArray, List.append_toArray, List.nil_append, List.cons_append]
  gi_wp2_with (fail)
  obtain ⟨b0, b1, b2⟩ := at3 w (.cells #[.slice none 0 0] 30) (.cells #[.int .i64 0] 32) (.cells #[.slice none 0 0] 30)
  have hb3 := below3 w (.cells #[.slice none 0 0] 30) (.cells #[.int .i64 0] 32) (.cells #[.slice none 0 0] 30)
  have hz3 : (((w.alloc (.cells #[.slice none 0 0] 30)).alloc (.cells #[.int .i64 0] 32)).alloc (.cells #[.slice none 0 0] 30)).heap.size = w.heap.size + 3 := by simp
  generalize (((w.alloc (.cells #[.slice none 0 0] 30)).alloc (.cells #[.int .i64 0] 32)).alloc (.cells #[.slice none 0 0] 30)) = W3 at *
  refine ⟨trivial, ?_⟩
  refine (callsIn_wide.2 (each_calls s _)).mono ?_
  rintro e w5 ⟨rfl, rfl⟩
  rw [hz3]
  have hZ : (W3.alloc (.cells #[.string s] 9 (0, 0))).heap.size = w.heap.size + 4 := by rw [World.size_alloc, hz3]
  have hBS : (W3.alloc (.cells #[.string s] 9 (0, 0))).heap[w.heap.size + 3]? = some (.cells #[.string s] 9 (0, 0)) := by rw [← hz3]; exact blk_new W3 _
  have E0 : DecI w [] (W3.alloc (.cells #[.string s] 9 (0, 0))) := ⟨blk_alloc b0 _, blk_alloc b1 _, ⟨_, blk_alloc b2 _, rfl, .inl ⟨rfl, rfl⟩⟩, hb3.alloc (by omega) _, fun _ h => by cases h⟩
  generalize W3.alloc (.cells #[.string s] 9 (0, 0)) = W0 at *
  clear b0 b1 b2 hb3 hz3
  gi_wp2_with (fail)
  have hZ' : W0.heap.size = w.heap.size + 4 := hZ
  refine wp_range2 (n := 1) (gf := 61) rfl (enters_of Tryd.func61 (by kernel_rfl) rfl) (each_iter 1 (w.heap.size + 3) s) (by omega) (fun k hk => by omega) (fun _ => rfl)
    (DecI w) (DecX w) (decI_calm w) (decX_calm w) (by rw [hZ']; exact decI_books w) (by rw [hZ']; exact decX_books w)
    E0 (fun x a1 W => ∃ g, W0.heap.size + 2 ≤ g ∧ W.heap[g]? = some (.cells #[.bool x.1.f0, .string x.1.f1, .string x.1.f2] 45 (0, 0)) ∧ a1 = { tmps := #[.string s, undef, .pointer (some ⟨w.heap.size, 0, none⟩), .pointer (some ⟨w.heap.size + 1, 0, none⟩), .pointer (some ⟨w.heap.size + 1 + 1, 0, none⟩), .pointer (some ⟨g, 0, none⟩), .bool x.2, undef, undef, .string s, .func (.func 61) #[] #[.pointer (some ⟨w.heap.size + 3, 0, none⟩)], .agg #[.bool x.1.f0, .string x.1.f1, .string x.1.f2], .bool x.2, undef, undef, undef, undef, undef, undef, undef, undef, undef, undef, undef, undef, undef, undef, undef, undef, undef, undef, undef], defers := [] })
    (fun k o hk ⟨g, h1, h2, h3⟩ => ⟨g, h1, (World.putObj_heap_other (by omega)).trans h2, h3⟩)
    (fun W hb => held_grow hBS hb) ?assign ?body ?done ?stop
  case assign =>
    intro l x W K hsz hK
    unfold encO
    gi_wp2
    exact hK _ _ (below_alloc (Below.refl _ _) _) ⟨W.heap.size, hsz, blk_new W _, rfl⟩
  case body =>
    rintro l pre x post a1 W hx hI ⟨g, hg, hbk, rfl⟩
    obtain ⟨⟨x0, x1, x2⟩, xb⟩ := x
    obtain ⟨h0, h1, ⟨v, h2, hO⟩, hB, hp⟩ := hI
    replace hx := Aside0.mk hx
    have HG := Aside0.mk (show w.heap.size + 4 ≤ W.heap.size by have := blk_lt hbk; omega)
    have HP := Aside0.mk hp
    have HB := Aside0.mk hB
    have H0 := Aside0.mk h0
    have H1 := Aside0.mk h1
    have H2 := Aside0.mk h2
    have HO := Aside0.mk hO
    have k0 : W.cell? ⟨w.heap.size, 0, none⟩ = some (.slice none 0 0) := (blk_cell h0 0).trans rfl
    have k1 : W.cell? ⟨w.heap.size + 1, 0, none⟩ = some (.int .i64 0) := (blk_cell h1 0).trans rfl
    have k2 : W.cell? ⟨w.heap.size + 1 + 1, 0, none⟩ = some v := (blk_cell h2 0).trans rfl
    have f0 := blk_frozen h0 0
    have f1 := blk_frozen h1 0
    have f2 : W.frozen? ⟨w.heap.size + 1 + 1, 0, none⟩ = false := blk_frozen h2 0
    have k5 : W.cell? ⟨g, 0, none⟩ = some (.bool x0) := (blk_cell hbk 0).trans rfl
    have k6 : W.cell? ⟨g, 1, none⟩ = some (.string x1) := (blk_cell hbk 1).trans rfl
    have k7 : W.cell? ⟨g, 2, none⟩ = some (.string x2) := (blk_cell hbk 2).trans rfl
    clear E0 hBS hZ hZ' hbk hg hp hB h0 h1 h2 hO
    dsimp only
    cases xb with
    | false =>
      gi_wp2
      refine ⟨(KeepsOthers.setCell _ _ _).trans (KeepsOthers.setCell _ _ _), pre, _, rfl, rfl, ?_, ?_, below_set (below_set HB.out (by show _ ≤ _; omega)) (by show _ ≤ _ + 1; omega)⟩
      · exact held_cell (blk_put H0.out 0 (.slice none 0 0) rfl) (by omega) _
      · exact blk_put (held_cell H1.out (by omega) _) 0 (.int .i64 1) rfl
    | true =>
      have HLN := Aside0.mk (show pre.length ≤ 100000 by have h := eachF_len s.size s; rw [hx.out, List.length_append, List.length_cons] at h; have := HS.out; omega)
      obtain ⟨i0, hi0, hz⟩ := Option.map_eq_some_iff.1 info45
      have z1 := (Prod.mk.inj hz).1
      have z2 := (Prod.mk.inj (Prod.mk.inj hz).2).1
      have z3 := (Prod.mk.inj (Prod.mk.inj hz).2).2
      clear hz
      have HOA := Aside0.mk (show (W.alloc (.cells #[.bool x0, .string x1, .string x2] 45 (0, 0))).ownsRow (w.heap.size + 4) 45 3 v (pre.map Prod.fst).length (flatO (pre.map Prod.fst)) from HO.out.below ((Below.refl _ W).alloc (Nat.le_refl _) _))
      gi_wp2_with (gi_at_builtin; refine wpListIn_append_own _ rfl _ _ 30 rfl (w.heap.size + 4) 45 i0 _ 3 40 Tryd.underlying30 hi0 z1 z2 z3 rfl (by decide) v _ _ rfl HOA.out ⟨W.heap.size, 0, none⟩ 1 1 [.bool x0, .string x1, .string x2] rfl rfl ?qc ?qo ?q1 ?q2 ?q3 ?_)
      case qc =>
        intro j u hj
        rw [Addr.add_lit, Nat.zero_add, cell_of_row _ W.heap.size _ _ _ (0, 0) (blk_new W _), ← Array.getElem?_toList]
        exact hj
      case qo => intro u hu; simp at hu; rcases hu with rfl | rfl | rfl <;> rfl
      case q1 => rw [List.length_map]; have := HLN.out; unfold maxLen; omega
      case q2 => rw [List.length_map]; have := HLN.out; omega
      case q3 => rw [World.size_alloc]; have := blk_lt H2.out; omega
      intro v' w1 hown hgrow hnil
      obtain ⟨g', c', rfl⟩ := ownsRow_succ hown
      have HAP := Aside0.mk (Boxed.appended (n₀ := w.heap.size) (tmp := .cells #[.bool x0, .string x1, .string x2] 45 (0, 0)) (show Boxed W (w.heap.size + 2) 30 v from H2.out) (by decide) (HO.out.lower (by omega)) HB.out.size (by omega) (own_weaken hown (by omega)) hgrow)
      have HL := Aside0.mk (fun (k : Nat) (hk : k < w.heap.size + 4) => grown_low HO.out hgrow (k := k) (by have := HG.out; omega) hk)
      have HOW := Aside0.mk (show OwnO (w1.setCell ⟨w.heap.size + 2, 0, none⟩ (.slice (some ⟨g', 0, none⟩) (pre.length + 1) c')) (w.heap.size + 4) (.slice (some ⟨g', 0, none⟩) (pre.length + 1) c') (pre.map Prod.fst ++ [⟨x0, x1, x2⟩]) from by
        refine OwnO.far (p := ⟨w.heap.size + 2, 0, none⟩) ?_ (by show _ + 2 < _; omega) _
        unfold OwnO
        rw [List.length_append, List.length_singleton, List.length_map, flatO_snoc]
        exact hown)
      have e2 : w1.cell? ⟨w.heap.size + 1 + 1, 0, none⟩ = some v := HAP.out.1.cell
      have e3 : w1.frozen? ⟨w.heap.size + 1 + 1, 0, none⟩ = false := HAP.out.1.frozen
      clear hown hgrow hnil k0 k1 k2 f0 f1 f2 k5 k6 k7
      gi_wp2
      refine ⟨HAP.out.2.2.2.1, fun k hk => ?_, ?_⟩
      · subst hk
        exact (Below.heap_setCell _ _ _ _ (by show _ + 3 ≠ _ + 1 + 1; omega)).trans (HL.out _ (by omega))
      · refine ⟨held_cell ((HL.out _ (by omega)).trans H0.out) (by omega) _, held_cell ((HL.out _ (by omega)).trans H1.out) (by omega) _, ⟨_, HAP.out.2.1, ?_⟩, HB.out.trans HAP.out.2.2.2.2, fun p hp => (List.mem_append.1 hp).elim (HP.out p) (fun h => by obtain rfl := List.mem_singleton.1 h; rfl)⟩
        rw [List.map_append]
        exact HOW.out
  case done =>
    rintro D W ⟨h0, h1, ⟨v, h2, hO⟩, hB, hp⟩ hD hDl
    obtain ⟨t, he, ht⟩ := eachF_ops s.size s
    have hok : (opsF s.size s).2 = true ∧ (eachF s.size s).map Prod.fst = (opsF s.size s).1 := by
      rcases ht with ⟨h3, rfl⟩ | ⟨h3, o, rfl⟩
      · refine ⟨h3, ?_⟩
        rw [he, List.append_nil, List.map_map]
        exact List.map_id _
      · have h4 := hp (o, false) (by rw [he]; simp)
        cases h4
    rw [hok.2] at hO
    have HOK := Aside0.mk hok.1
    clear hok he ht hp
    have hlen := opsF_len s.size s
    have HDB := Aside0.mk (show decB s = _ from by unfold decB; rfl)
    rw [HOK.out] at HDB
    generalize hops : (opsF s.size s).1 = os at *
    obtain ⟨A, c, rfl, hc, hC⟩ := hO.slice
    generalize henc : encB ⟨#[]⟩ os = te at *
    obtain ⟨te, er⟩ := te
    have CE := Aside0.mk (files_Encode.calls A c os te er W hC hc (by unfold files_Encode.f; rw [if_pos (by have := HS.out; omega), henc]))
    have H0 := Aside0.mk h0
    have H1 := Aside0.mk h1
    have H2 := Aside0.mk h2
    have HO := Aside0.mk hO
    have HB := Aside0.mk hB
    replace hD := Aside0.mk hD
    replace hDl := Aside0.mk (show w.heap.size + 4 ≤ D by omega)
    have k2 : W.cell? ⟨w.heap.size + 1 + 1, 0, none⟩ = some (.slice A os.length c) := (blk_cell h2 0).trans rfl
    clear h0 h1 h2 hO hB hC hc henc hops hlen E0 hBS hZ hZ'
    by_cases h1 : er = 0
    · subst h1
      by_cases h2 : te = s
      · subst h2
        have n1 : (te.toList != te.toList) = false := bne_self_eq_false _
        rw [if_pos ⟨rfl, rfl, rfl⟩] at HDB
        gi_wp2_with (refine ⟨trivial, ?_⟩; gi_at_call 26; refine (callsIn_wide.2 CE.out).mono ?_; rintro e w6 ⟨rfl, hb6⟩; have HB6 := Aside0.mk hb6; have B0 := Aside0.mk (blk_below H0.out hb6); have B1 := Aside0.mk (blk_below H1.out hb6); have B2 := Aside0.mk (blk_below H2.out hb6); clear hb6 k2; have k0 : w6.cell? ⟨w.heap.size, 0, none⟩ = some (.slice none 0 0) := (blk_cell B0.out 0).trans rfl; have k1 : w6.cell? ⟨w.heap.size + 1, 0, none⟩ = some (.int .i64 0) := (blk_cell B1.out 0).trans rfl; have k2 : w6.cell? ⟨w.heap.size + 1 + 1, 0, none⟩ = some (.slice A os.length c) := (blk_cell B2.out 0).trans rfl; have f0 := blk_frozen B0.out 0; have f1 := blk_frozen B1.out 0)
        refine ⟨by simp, .inl ⟨_, _, rfl, run_takeDeferred (held_cell (held_cell (held_grow hD.out HB6.out) (by have := hDl.out; omega) _) (by have := hDl.out; omega) _), ?_⟩⟩
        have b0 := held_cell (blk_put B0.out 0 (.slice A os.length c) rfl) (B := w.heap.size + 1) (by omega) (.int .i64 0)
        have b1 := blk_put (held_cell B1.out (B := w.heap.size) (by omega) (.slice A os.length c)) 0 (.int .i64 0) rfl
        have BB := ((below_step HB.out HB6.out).setCell (p := ⟨w.heap.size, 0, none⟩) (Nat.le_refl _) (.slice A os.length c)).setCell (p := ⟨w.heap.size + 1, 0, none⟩) (Nat.le_succ _) (.int .i64 0)
        have OO := (((HO.out.below HB6.out).far (p := ⟨w.heap.size, 0, none⟩) (by dsimp only; omega) (.slice A os.length c)).far (p := ⟨w.heap.size + 1, 0, none⟩) (by dsimp only; omega) (.int .i64 0))
        have hDD := held_cell (held_cell (held_grow hD.out HB6.out) (B := w.heap.size) (by have := hDl.out; omega) (.slice A os.length c)) (B := w.heap.size + 1) (by have := hDl.out; omega) (.int .i64 0)
        exact ⟨_, res_dec (r1 := w.heap.size) (r2 := w.heap.size + 1) (v := .slice A os.length c) (i := 0) rfl rfl (blk_cell ((World.putObj_heap_other (by have := hDl.out; omega)).trans b0) 0) (blk_cell ((World.putObj_heap_other (by have := hDl.out; omega)).trans b1) 0) ⟨_, _, _, rfl⟩, _, by rw [HDB.out], by rw [HDB.out]; exact (OO.putObj _ ⟨_, hDD, rfl⟩).lower (by omega), put_below _ BB (by have := hDl.out; omega)⟩
      · have n1 : (te.toList == s.toList) = false := by rw [beq_eq_false_iff_ne]; exact fun c => h2 (ByteArray.ext (Array.toList_inj.mp (by rw [← Go.ByteArray.toList_eq, ← Go.ByteArray.toList_eq]; exact c)))
        rw [if_neg (fun c => h2 c.2.2)] at HDB
        clear h2
        gi_wp2_with (refine ⟨trivial, ?_⟩; gi_at_call 26; refine (callsIn_wide.2 CE.out).mono ?_; rintro e w6 ⟨rfl, hb6⟩; have HB6 := Aside0.mk hb6; have B0 := Aside0.mk (blk_below H0.out hb6); have B1 := Aside0.mk (blk_below H1.out hb6); have B2 := Aside0.mk (blk_below H2.out hb6); clear hb6 k2; have k0 : w6.cell? ⟨w.heap.size, 0, none⟩ = some (.slice none 0 0) := (blk_cell B0.out 0).trans rfl; have k1 : w6.cell? ⟨w.heap.size + 1, 0, none⟩ = some (.int .i64 0) := (blk_cell B1.out 0).trans rfl; have k2 : w6.cell? ⟨w.heap.size + 1 + 1, 0, none⟩ = some (.slice A os.length c) := (blk_cell B2.out 0).trans rfl; have f0 := blk_frozen B0.out 0; have f1 := blk_frozen B1.out 0)
        refine ⟨by simp, .inl ⟨_, _, rfl, run_takeDeferred (held_cell (held_cell (held_grow hD.out HB6.out) (by have := hDl.out; omega) _) (by have := hDl.out; omega) _), ?_⟩⟩
        have b0 := held_cell (blk_put B0.out 0 (.slice none 0 0) rfl) (B := w.heap.size + 1) (by omega) (.int .i64 1)
        have b1 := blk_put (held_cell B1.out (B := w.heap.size) (by omega) (.slice none 0 0)) 0 (.int .i64 1) rfl
        have BB := ((below_step HB.out HB6.out).setCell (p := ⟨w.heap.size, 0, none⟩) (Nat.le_refl _) (.slice none 0 0)).setCell (p := ⟨w.heap.size + 1, 0, none⟩) (Nat.le_succ _) (.int .i64 1)
        exact ⟨_, res_dec (r1 := w.heap.size) (r2 := w.heap.size + 1) (v := .slice none 0 0) (i := 1) rfl rfl (blk_cell ((World.putObj_heap_other (by have := hDl.out; omega)).trans b0) 0) (blk_cell ((World.putObj_heap_other (by have := hDl.out; omega)).trans b1) 0) ⟨_, _, _, rfl⟩, _, by rw [HDB.out], by rw [HDB.out]; exact ⟨rfl, .inl ⟨rfl, rfl⟩⟩, put_below _ BB (by have := hDl.out; omega)⟩
    · have nc : (er != 0) = true := by simpa using h1
      have nd : decide (er = 0) = false := decide_eq_false h1
      rw [if_neg (fun c => h1 c.2.1)] at HDB
      clear h1
      gi_wp2_with (refine ⟨trivial, ?_⟩; gi_at_call 26; refine (callsIn_wide.2 CE.out).mono ?_; rintro e w6 ⟨rfl, hb6⟩; have HB6 := Aside0.mk hb6; have B0 := Aside0.mk (blk_below H0.out hb6); have B1 := Aside0.mk (blk_below H1.out hb6); have B2 := Aside0.mk (blk_below H2.out hb6); clear hb6 k2; have k0 : w6.cell? ⟨w.heap.size, 0, none⟩ = some (.slice none 0 0) := (blk_cell B0.out 0).trans rfl; have k1 : w6.cell? ⟨w.heap.size + 1, 0, none⟩ = some (.int .i64 0) := (blk_cell B1.out 0).trans rfl; have k2 : w6.cell? ⟨w.heap.size + 1 + 1, 0, none⟩ = some (.slice A os.length c) := (blk_cell B2.out 0).trans rfl; have f0 := blk_frozen B0.out 0; have f1 := blk_frozen B1.out 0)
      refine ⟨by simp, .inl ⟨_, _, rfl, run_takeDeferred (held_cell (held_cell (held_grow hD.out HB6.out) (by have := hDl.out; omega) _) (by have := hDl.out; omega) _), ?_⟩⟩
      have b0 := held_cell (blk_put B0.out 0 (.slice none 0 0) rfl) (B := w.heap.size + 1) (by omega) (.int .i64 1)
      have b1 := blk_put (held_cell B1.out (B := w.heap.size) (by omega) (.slice none 0 0)) 0 (.int .i64 1) rfl
      have BB := ((below_step HB.out HB6.out).setCell (p := ⟨w.heap.size, 0, none⟩) (Nat.le_refl _) (.slice none 0 0)).setCell (p := ⟨w.heap.size + 1, 0, none⟩) (Nat.le_succ _) (.int .i64 1)
      exact ⟨_, res_dec (r1 := w.heap.size) (r2 := w.heap.size + 1) (v := .slice none 0 0) (i := 1) rfl rfl (blk_cell ((World.putObj_heap_other (by have := hDl.out; omega)).trans b0) 0) (blk_cell ((World.putObj_heap_other (by have := hDl.out; omega)).trans b1) 0) ⟨_, _, _, rfl⟩, _, by rw [HDB.out], by rw [HDB.out]; exact ⟨rfl, .inl ⟨rfl, rfl⟩⟩, put_below _ BB (by have := hDl.out; omega)⟩
  case stop =>
    rintro D pre x post W hx ⟨p, y, he, hy, h0, h1, hB⟩ hD hDl
    obtain ⟨rfl, rfl⟩ : pre = p ∧ x = y := by
      have h := List.append_inj' he rfl
      exact ⟨h.1, (List.cons.inj h.2).1⟩
    have HDB := Aside0.mk (show decB s = ([], 1) from by
      obtain ⟨t, he2, ht⟩ := eachF_ops s.size s
      unfold decB
      rw [if_neg]
      rintro ⟨h3, _⟩
      rcases ht with ⟨_, rfl⟩ | ⟨h4, _⟩
      · have h5 : x ∈ eachF s.size s := by rw [hx]; simp
        rw [he2, List.append_nil, List.mem_map] at h5
        obtain ⟨o, _, rfl⟩ := h5
        cases hy
      · rw [h3] at h4; cases h4)
    have B0 := Aside0.mk h0
    have B1 := Aside0.mk h1
    have HB := Aside0.mk hB
    replace hD := Aside0.mk hD
    replace hDl := Aside0.mk hDl
    have HZ := Aside0.mk hZ'
    clear h0 h1 hB he hy hx E0 hBS hZ hZ'
    gi_wp2
    refine ⟨by simp, .inl ⟨_, _, rfl, run_takeDeferred hD.out, ?_⟩⟩
    exact ⟨_, res_dec (r1 := w.heap.size) (r2 := w.heap.size + 1) (v := .slice none 0 0) (i := 1) rfl rfl (blk_cell ((World.putObj_heap_other (by have := hDl.out; have := HZ.out; omega)).trans B0.out) 0) (blk_cell ((World.putObj_heap_other (by have := hDl.out; have := HZ.out; omega)).trans B1.out) 0) ⟨_, _, _, rfl⟩, _, by rw [HDB.out], by rw [HDB.out]; exact ⟨rfl, .inl ⟨rfl, rfl⟩⟩, put_below _ HB.out (by have := hDl.out; have := HZ.out; omega)⟩
def files_Decode.f (s : ByteArray) : Option (List S45 × Int) := if s.size ≤ 100000 then some (decB s) else none
theorem files_Decode.calls (s : ByteArray) (r1 : List S45) (r2 : Int) (w : World) (h : files_Decode.f s = some (r1, r2)) :
    Calls Tryd.prog 28 #[.string s] w fun e w' => ∃ v, e = .returned (.tuple #[v, .int .i64 r2]) ∧ Kd.R k45 45 w' w.heap.size (fun _ => True) v r1 ∧ Below w.heap.size w w' := by
  unfold files_Decode.f at h
  split at h
  case isFalse => cases h
  rename_i hs
  have h1 := Option.some.inj h
  refine (decode_any s hs w).mono ?_
  rintro e w' ⟨v, rfl, hO, hB⟩
  rw [h1] at hO
  exact ⟨v, by rw [h1], hO.to, hB⟩
end Go.Proofs.YtnhhbmekjoanbaaDoor.P
namespace Go.Proofs.YtnhhbmekjoanbaaDoor.P
open Go.RowKit Go.Lib Go.Proofs.YtnhhbmekjoanbaaDoorW.PrintWords Go.Proofs.YtnhhbmekjoanbaaDoorW.PrintLast Go.Proofs.YtnhhbmekjoanbaaDoorW.PrintMore
set_option linter.unusedVariables false
theorem cmpS_lt (a b : ByteArray) : cmpS a b < 0 ↔ a.data.toList < b.data.toList := by
  have h1 := cb_less a.data.toList b.data.toList
  rw [show Lib.compareBytes a.data.toList b.data.toList = cmpS a b from rfl] at h1
  exact decide_eq_decide.1 h1
/-- A list of ops of which no two have one path. -/
def Apart (l : List S45) : Prop := ∀ x ∈ l, ∀ y ∈ l, x.f1 = y.f1 → x = y
def ordO (x y : S45) : Bool := !decide (cmpS y.f1 x.f1 < 0)
theorem ord_one {l ys : List S45} (ha : Apart l) (hp : ys.Perm l) (hs : ys.Pairwise (fun x y => ¬ cmpS y.f1 x.f1 < 0)) : ys = l.mergeSort ordO := by
  have hm : (l.mergeSort ordO).Pairwise (fun x y => ¬ cmpS y.f1 x.f1 < 0) := by
    have h := List.pairwise_mergeSort (le := ordO) (fun a b c h1 h2 => by
      unfold ordO at *
      simp only [Bool.not_eq_true', decide_eq_false_iff_not, cmpS_lt, List.not_lt] at *
      exact List.le_trans h1 h2) (fun a b => by
      unfold ordO
      simp only [Bool.or_eq_true, Bool.not_eq_true', decide_eq_false_iff_not, cmpS_lt, List.not_lt]
      exact List.le_total ..) l
    refine h.imp ?_
    intro a b hab
    unfold ordO at hab
    simpa using hab
  refine List.Perm.eq_of_pairwise (le := fun x y => ¬ cmpS y.f1 x.f1 < 0) ?_ hs hm (hp.trans (List.mergeSort_perm l ordO).symm)
  intro a b hA hB h1 h2
  have ha1 := hp.mem_iff.1 hA
  have hb1 := (List.mergeSort_perm l ordO).mem_iff.1 hB
  refine ha a ha1 b hb1 ?_
  rw [cmpS_lt, List.not_lt] at h1 h2
  exact ByteArray.ext (Array.toList_inj.mp (List.le_antisymm h1 h2))
theorem getB_mem (x : S49) : ∀ b : List S49, x ∈ b → (getB x.f0 b).2 = true
  | [], h => by cases h
  | y :: r, h => by
    rw [getB]
    by_cases hy : (y.f0.toList == x.f0.toList) = true
    · rw [if_pos hy]
    · rw [if_neg hy]
      rcases List.mem_cons.1 h with rfl | h
      · exact absurd (beq_self_eq_true _) hy
      · exact getB_mem x r h
theorem rise_lt : ∀ (l : List S49) (last : ByteArray), riseB last l = true → ∀ x ∈ l, last.toList < x.f0.toList
  | [], _, _, _, hx => by cases hx
  | y :: r, last, h, x, hx => by
    rw [riseB] at h
    simp only [Bool.and_eq_true] at h
    obtain ⟨_, _, h1, h2⟩ := h
    rw [Go.Proofs.bytesLess_eq] at h1
    have h1' := of_decide_eq_true h1
    rcases List.mem_cons.1 hx with rfl | hx
    · exact h1'
    · exact List.lt_trans h1' (rise_lt r y.f0 h2 x hx)
theorem rise_apart : ∀ (l : List S49) (last : ByteArray), riseB last l = true → ∀ x ∈ l, ∀ y ∈ l, x.f0 = y.f0 → x = y
  | [], _, _, _, hx, _, _, _ => by cases hx
  | z :: r, last, h, x, hx, y, hy, e => by
    rw [riseB] at h
    simp only [Bool.and_eq_true] at h
    obtain ⟨_, _, h1, h2⟩ := h
    rcases List.mem_cons.1 hx with ex | hx'
    · rcases List.mem_cons.1 hy with ey | hy'
      · rw [ex, ey]
      · exact absurd (rise_lt r z.f0 h2 y hy') (by rw [← e, ex]; exact List.lt_irrefl _)
    · rcases List.mem_cons.1 hy with ey | hy'
      · exact absurd (rise_lt r z.f0 h2 x hx') (by rw [e, ey]; exact List.lt_irrefl _)
      · exact rise_apart r z.f0 h2 x hx' y hy' e
theorem goneB_mem (b : List S49) : ∀ a, ∀ o ∈ goneB b a, ∃ x ∈ a, o = ⟨true, x.f0, ⟨#[]⟩⟩ ∧ (getB x.f0 b).2 = false
  | [], _, h => by cases h
  | y :: r, o, h => by
    rw [goneB] at h
    split at h
    · obtain ⟨x, hx, h2⟩ := goneB_mem b r o h
      exact ⟨x, List.mem_cons_of_mem _ hx, h2⟩
    · rename_i hg
      rcases List.mem_cons.1 h with rfl | h
      · exact ⟨y, List.mem_cons_self, rfl, by simpa using hg⟩
      · obtain ⟨x, hx, h2⟩ := goneB_mem b r o h
        exact ⟨x, List.mem_cons_of_mem _ hx, h2⟩
theorem putB_mem (a : List S49) : ∀ b, ∀ o ∈ putB a b, ∃ x ∈ b, o = ⟨false, x.f0, x.f1⟩
  | [], _, h => by cases h
  | y :: r, o, h => by
    rw [putB] at h
    split at h
    · obtain ⟨x, hx, h2⟩ := putB_mem a r o h
      exact ⟨x, List.mem_cons_of_mem _ hx, h2⟩
    · rcases List.mem_cons.1 h with rfl | h
      · exact ⟨y, List.mem_cons_self, rfl⟩
      · obtain ⟨x, hx, h2⟩ := putB_mem a r o h
        exact ⟨x, List.mem_cons_of_mem _ hx, h2⟩
theorem diff_apart (a b : List S49) (hb : mayB b = true) : Apart (goneB b a ++ putB a b) := by
  have hr : riseB ⟨#[]⟩ b = true := by
    unfold mayB at hb
    simp only [Bool.and_eq_true] at hb
    exact hb.2
  intro x hx y hy e
  rcases List.mem_append.1 hx with hx | hx <;> rcases List.mem_append.1 hy with hy | hy
  · obtain ⟨p, _, rfl, _⟩ := goneB_mem b a x hx
    obtain ⟨q, _, rfl, _⟩ := goneB_mem b a y hy
    dsimp only at e
    rw [e]
  · obtain ⟨p, _, rfl, hp⟩ := goneB_mem b a x hx
    obtain ⟨q, hq, rfl⟩ := putB_mem a b y hy
    dsimp only at e
    rw [e, getB_mem q b hq] at hp
    cases hp
  · obtain ⟨p, hp, rfl⟩ := putB_mem a b x hx
    obtain ⟨q, _, rfl, hq⟩ := goneB_mem b a y hy
    dsimp only at e
    rw [← e, getB_mem p b hp] at hq
    cases hq
  · obtain ⟨p, hp, rfl⟩ := putB_mem a b x hx
    obtain ⟨q, hq, rfl⟩ := putB_mem a b y hy
    dsimp only at e
    rw [rise_apart b _ hr p hp q hq e]
def files_Diff.f (a b : List S49) : Option (List S45) := some (if (mayB a && mayB b) = true then (goneB b a ++ putB a b).mergeSort ordO else [])
theorem files_Diff.calls (A0 : Option Addr) (c0 : Nat) (a : List S49) (A1 : Option Addr) (c1 : Nat) (b : List S49) (r : List S45) (w : World) (ha : Kd.C k49 w A0 a.length a) (ga : a.length ≤ c0) (hb : Kd.C k49 w A1 b.length b) (gb : b.length ≤ c1) (h : files_Diff.f a b = some r) :
    Calls Tryd.prog 24 #[.slice A0 a.length c0, .slice A1 b.length c1] w fun e w' => ∃ v, e = .returned v ∧ Kd.R k45 45 w' w.heap.size (fun _ => True) v r ∧ Below w.heap.size w w' := by
  have h := Option.some.inj h
  cases hm : (mayB a && mayB b) with
  | false =>
    rw [hm, if_neg (by decide)] at h
    subst h
    refine (diff_may A0 A1 c0 c1 a b w ha ga hb gb hm).mono ?_
    rintro e w' ⟨rfl, h2⟩
    exact ⟨_, rfl, Kd.R_nil .., h2⟩
  | true =>
    rw [hm, if_pos rfl] at h
    have hmm := Bool.and_eq_true_iff.1 hm
    refine (diff_loops sorts_ops A0 A1 c0 c1 a b w ha ga hb gb hmm.1 hmm.2).mono ?_
    rintro e w' ⟨v, rfl, ⟨ys, ⟨hp, hs⟩, hR⟩, h2⟩
    rw [ord_one (diff_apart a b hmm.2) hp hs, h] at hR
    exact ⟨v, rfl, hR, h2⟩
end Go.Proofs.YtnhhbmekjoanbaaDoor.P
namespace Go.Proofs.YtnhhbmekjoanbaaDoor.P
open Go Go.RowKit Go.Proofs.YtnhhbmekjoanbaaDoorW.PrintWords Go.Proofs.YtnhhbmekjoanbaaDoorW.PrintLast Go.Proofs.YtnhhbmekjoanbaaDoorW.PrintMore
attribute [local go_sem] max2_int min2_int max_two min_two max_three min_three max_four min_four
set_option linter.unusedVariables false
set_option linter.unusedSimpArgs false
set_option maxHeartbeats 8000000 in
set_option maxRecDepth 100000 in
theorem app_none (w0 w : World) (base gs : Nat) (xs : List S49) (o0 : Bool) (o1 o2 : ByteArray) (hs : SetP w0 w base gs xs) (hl : xs.length ≤ 1000) (hp : pathB o1 = true) (hg : o0 = true) (hi : isF o1 xs = false) :
    Calls Tryd.prog 38 #[.pointer (some ⟨gs, 0, none⟩), .agg #[.bool o0, .string o1, .string o2]] w (AppP w0 base gs 5 xs) := by
  obtain ⟨v, hv, ho, hb0, hbs⟩ := hs
  have hu := Tryd.underlying45
  have hu2 := Tryd.underlying60
  have mixed : Tryd.prog.follows .mixedOrders = true := by kernel_rfl
  have hgl : gs < w.heap.size := (Array.getElem?_eq_some_iff.1 hv).1
  have hbw : base ≤ w.heap.size := by omega
  have hA := Aside0.mk (blk_new w (.cells #[.bool o0, .string o1, .string o2] 45 (0, 0)))
  have hB := Aside0.mk ((Below.refl w.heap.size w).alloc (Nat.le_refl _) (.cells #[.bool o0, .string o1, .string o2] 45 (0, 0)))
  have c1 : (w.alloc (.cells #[.bool o0, .string o1, .string o2] 45 (0, 0))).cell? ⟨w.heap.size, 1, none⟩ = some (.string o1) := (blk_cell hA.out 1).trans rfl
  have HP := Aside0.mk (show files_Path.f o1 = some true from congrArg some hp)
  have HV := Aside0.mk hv
  have HO := Aside0.mk ho
  have HB0 := Aside0.mk hb0
  have HL := Aside0.mk hl
  clear hb0 hp hl
  obtain ⟨A, n, c, rfl⟩ : ∃ A n c, v = .slice A n c := by
    rcases ho.form with ⟨rfl, _⟩ | ⟨g, c, rfl⟩
    · exact ⟨_, _, _, rfl⟩
    · exact ⟨_, _, _, rfl⟩
  clear ho hv
  obtain ⟨rfl, hnc, hCw⟩ := own_C HO.out HL.out
  have HNC := Aside0.mk hnc
  have CB := Aside0.mk (fun (W : World) (h : Below w.heap.size w W) => binary_any o1 A c xs W (Kd.C_below hCw h) HNC.out (by have := HL.out; omega) (atF o1 xs) rfl (isF o1 xs) rfl)
  have HLE := Aside0.mk (atF_le o1 xs)
  have HIS := Aside0.mk (show isF o1 xs = (decide (atF o1 xs < xs.length) && (cmpS (rd_T49 xs (atF o1 xs : Int)).f0 o1 == 0)) from rfl)
  clear hCw hnc
  subst hg
  rw [hi] at CB
  generalize hat : atF o1 xs = at_ at *
  go_enter Tryd.func38, Tryd.ntmps38
  go_wp2_with (go_at_call 14; refine (files_Path.calls _ _ _ HP.out).mono ?_; rintro e w2 ⟨rfl, hb⟩; have HBB := Aside0.mk (below_step hB.out hb); have HK := Aside0.mk (blk_below hA.out hb); have HV2 := Aside0.mk (HBB.out.block gs hgl |>.trans HV.out); clear hb c1; have d1 : w2.cell? ⟨w.heap.size, 1, none⟩ = some (.string o1) := (blk_cell HK.out 1).trans rfl; have d2 : w2.cell? ⟨gs, 0, none⟩ = some _ := (blk_cell HV2.out 0).trans rfl)
  go_region_with (go_at_call 53; refine (CB.out _ ?_).mono ?_; exact below_drew HBB.out; rintro e w3 ⟨rfl, hb3⟩)
  all_goals (
    (try simp only [Act.put, List.setIfInBounds_toArray, List.set_cons_zero, List.set_cons_succ])
    have HBB3 := Aside0.mk (below_step (below_drew HBB.out) hb3)
    have HK3 := Aside0.mk (blk_below (blk_drew HK.out) hb3)
    have HV3 := Aside0.mk (blk_below (blk_drew HV2.out) hb3)
    clear hb3 d1 d2
    have e0 : w3.cell? ⟨w.heap.size, 0, none⟩ = some (.bool true) := (blk_cell HK3.out 0).trans rfl
    have e1 : w3.cell? ⟨w.heap.size, 1, none⟩ = some (.string o1) := (blk_cell HK3.out 1).trans rfl
    have e2 : w3.cell? ⟨w.heap.size, 2, none⟩ = some (.string o2) := (blk_cell HK3.out 2).trans rfl
    have e3 : w3.cell? ⟨gs, 0, none⟩ = some (.slice A xs.length c) := (blk_cell HV3.out 0).trans rfl
    have f3 := blk_frozen HV3.out 0
    go_wp2_with (fail)
    go_ret
    exact ⟨rfl, HB0.out.trans (HBB3.out.mono hbw), fun h => absurd h (by decide)⟩)
set_option maxHeartbeats 8000000 in
set_option maxRecDepth 100000 in
theorem app_size (w0 w : World) (base gs : Nat) (xs : List S49) (o0 : Bool) (o1 o2 : ByteArray) (hs : SetP w0 w base gs xs) (hl : xs.length ≤ 1000) (hp : pathB o1 = true) (hg : o0 = false) (hz : o2.size > 4096) (i : Bool) (hi : isF o1 xs = i) :
    Calls Tryd.prog 38 #[.pointer (some ⟨gs, 0, none⟩), .agg #[.bool o0, .string o1, .string o2]] w (AppP w0 base gs 2 xs) := by
  obtain ⟨v, hv, ho, hb0, hbs⟩ := hs
  have hu := Tryd.underlying45
  have hu2 := Tryd.underlying60
  have mixed : Tryd.prog.follows .mixedOrders = true := by kernel_rfl
  have hgl : gs < w.heap.size := (Array.getElem?_eq_some_iff.1 hv).1
  have hbw : base ≤ w.heap.size := by omega
  have hA := Aside0.mk (blk_new w (.cells #[.bool o0, .string o1, .string o2] 45 (0, 0)))
  have hB := Aside0.mk ((Below.refl w.heap.size w).alloc (Nat.le_refl _) (.cells #[.bool o0, .string o1, .string o2] 45 (0, 0)))
  have c1 : (w.alloc (.cells #[.bool o0, .string o1, .string o2] 45 (0, 0))).cell? ⟨w.heap.size, 1, none⟩ = some (.string o1) := (blk_cell hA.out 1).trans rfl
  have HP := Aside0.mk (show files_Path.f o1 = some true from congrArg some hp)
  have HV := Aside0.mk hv
  have HO := Aside0.mk ho
  have HB0 := Aside0.mk hb0
  have HL := Aside0.mk hl
  clear hb0 hp hl
  obtain ⟨A, n, c, rfl⟩ : ∃ A n c, v = .slice A n c := by
    rcases ho.form with ⟨rfl, _⟩ | ⟨g, c, rfl⟩
    · exact ⟨_, _, _, rfl⟩
    · exact ⟨_, _, _, rfl⟩
  clear ho hv
  obtain ⟨rfl, hnc, hCw⟩ := own_C HO.out HL.out
  have HNC := Aside0.mk hnc
  have CB := Aside0.mk (fun (W : World) (h : Below w.heap.size w W) => binary_any o1 A c xs W (Kd.C_below hCw h) HNC.out (by have := HL.out; omega) (atF o1 xs) rfl (isF o1 xs) rfl)
  have HLE := Aside0.mk (atF_le o1 xs)
  have HIS := Aside0.mk (show isF o1 xs = (decide (atF o1 xs < xs.length) && (cmpS (rd_T49 xs (atF o1 xs : Int)).f0 o1 == 0)) from rfl)
  clear hCw hnc
  subst hg
  rw [hi] at CB
  have z1 : decide (4096 < (o2.size : Int)) = true := decide_eq_true (by omega)
  have z2 : decide (4096 < o2.size) = true := decide_eq_true (by omega)
  generalize hat : atF o1 xs = at_ at *
  go_enter Tryd.func38, Tryd.ntmps38
  go_wp2_with (go_at_call 14; refine (files_Path.calls _ _ _ HP.out).mono ?_; rintro e w2 ⟨rfl, hb⟩; have HBB := Aside0.mk (below_step hB.out hb); have HK := Aside0.mk (blk_below hA.out hb); have HV2 := Aside0.mk (HBB.out.block gs hgl |>.trans HV.out); clear hb c1; have d1 : w2.cell? ⟨w.heap.size, 1, none⟩ = some (.string o1) := (blk_cell HK.out 1).trans rfl; have d2 : w2.cell? ⟨gs, 0, none⟩ = some _ := (blk_cell HV2.out 0).trans rfl)
  go_region_with (go_at_call 53; refine (CB.out _ ?_).mono ?_; exact below_drew HBB.out; rintro e w3 ⟨rfl, hb3⟩)
  all_goals (
    (try simp only [Act.put, List.setIfInBounds_toArray, List.set_cons_zero, List.set_cons_succ])
    have HBB3 := Aside0.mk (below_step (below_drew HBB.out) hb3)
    have HK3 := Aside0.mk (blk_below (blk_drew HK.out) hb3)
    have HV3 := Aside0.mk (blk_below (blk_drew HV2.out) hb3)
    clear hb3 d1 d2
    have e0 : w3.cell? ⟨w.heap.size, 0, none⟩ = some (.bool false) := (blk_cell HK3.out 0).trans rfl
    have e1 : w3.cell? ⟨w.heap.size, 1, none⟩ = some (.string o1) := (blk_cell HK3.out 1).trans rfl
    have e2 : w3.cell? ⟨w.heap.size, 2, none⟩ = some (.string o2) := (blk_cell HK3.out 2).trans rfl
    have e3 : w3.cell? ⟨gs, 0, none⟩ = some (.slice A xs.length c) := (blk_cell HV3.out 0).trans rfl
    have f3 := blk_frozen HV3.out 0
    go_wp2_with (fail)
    go_ret
    exact ⟨rfl, HB0.out.trans (HBB3.out.mono hbw), fun h => absurd h (by decide)⟩)
set_option maxHeartbeats 8000000 in
set_option maxRecDepth 100000 in
theorem app_full (w0 w : World) (base gs : Nat) (xs : List S49) (o0 : Bool) (o1 o2 : ByteArray) (hs : SetP w0 w base gs xs) (hl : xs.length ≤ 1000) (hp : pathB o1 = true) (hg : o0 = false) (hz : ¬ o2.size > 4096) (hi : isF o1 xs = false) (hf : xs.length = 40) :
    Calls Tryd.prog 38 #[.pointer (some ⟨gs, 0, none⟩), .agg #[.bool o0, .string o1, .string o2]] w (AppP w0 base gs 3 xs) := by
  obtain ⟨v, hv, ho, hb0, hbs⟩ := hs
  have hu := Tryd.underlying45
  have hu2 := Tryd.underlying60
  have mixed : Tryd.prog.follows .mixedOrders = true := by kernel_rfl
  have hgl : gs < w.heap.size := (Array.getElem?_eq_some_iff.1 hv).1
  have hbw : base ≤ w.heap.size := by omega
  have hA := Aside0.mk (blk_new w (.cells #[.bool o0, .string o1, .string o2] 45 (0, 0)))
  have hB := Aside0.mk ((Below.refl w.heap.size w).alloc (Nat.le_refl _) (.cells #[.bool o0, .string o1, .string o2] 45 (0, 0)))
  have c1 : (w.alloc (.cells #[.bool o0, .string o1, .string o2] 45 (0, 0))).cell? ⟨w.heap.size, 1, none⟩ = some (.string o1) := (blk_cell hA.out 1).trans rfl
  have HP := Aside0.mk (show files_Path.f o1 = some true from congrArg some hp)
  have HV := Aside0.mk hv
  have HO := Aside0.mk ho
  have HB0 := Aside0.mk hb0
  have HL := Aside0.mk hl
  clear hb0 hp hl
  obtain ⟨A, n, c, rfl⟩ : ∃ A n c, v = .slice A n c := by
    rcases ho.form with ⟨rfl, _⟩ | ⟨g, c, rfl⟩
    · exact ⟨_, _, _, rfl⟩
    · exact ⟨_, _, _, rfl⟩
  clear ho hv
  obtain ⟨rfl, hnc, hCw⟩ := own_C HO.out HL.out
  have HNC := Aside0.mk hnc
  have CB := Aside0.mk (fun (W : World) (h : Below w.heap.size w W) => binary_any o1 A c xs W (Kd.C_below hCw h) HNC.out (by have := HL.out; omega) (atF o1 xs) rfl (isF o1 xs) rfl)
  have HLE := Aside0.mk (atF_le o1 xs)
  have HIS := Aside0.mk (show isF o1 xs = (decide (atF o1 xs < xs.length) && (cmpS (rd_T49 xs (atF o1 xs : Int)).f0 o1 == 0)) from rfl)
  clear hCw hnc
  subst hg
  rw [hi] at CB
  have z1 : decide (4096 < (o2.size : Int)) = false := decide_eq_false (by omega)
  have z2 : decide (4096 < o2.size) = false := decide_eq_false (by omega)
  have y1 : ((xs.length : Int) == 40) = true := by rw [hf]; rfl
  have y2 : (xs.length == 40) = true := by rw [hf]; rfl
  clear hf
  generalize hat : atF o1 xs = at_ at *
  go_enter Tryd.func38, Tryd.ntmps38
  go_wp2_with (go_at_call 14; refine (files_Path.calls _ _ _ HP.out).mono ?_; rintro e w2 ⟨rfl, hb⟩; have HBB := Aside0.mk (below_step hB.out hb); have HK := Aside0.mk (blk_below hA.out hb); have HV2 := Aside0.mk (HBB.out.block gs hgl |>.trans HV.out); clear hb c1; have d1 : w2.cell? ⟨w.heap.size, 1, none⟩ = some (.string o1) := (blk_cell HK.out 1).trans rfl; have d2 : w2.cell? ⟨gs, 0, none⟩ = some _ := (blk_cell HV2.out 0).trans rfl)
  go_region_with (go_at_call 53; refine (CB.out _ ?_).mono ?_; exact below_drew HBB.out; rintro e w3 ⟨rfl, hb3⟩)
  all_goals (
    (try simp only [Act.put, List.setIfInBounds_toArray, List.set_cons_zero, List.set_cons_succ])
    have HBB3 := Aside0.mk (below_step (below_drew HBB.out) hb3)
    have HK3 := Aside0.mk (blk_below (blk_drew HK.out) hb3)
    have HV3 := Aside0.mk (blk_below (blk_drew HV2.out) hb3)
    clear hb3 d1 d2
    have e0 : w3.cell? ⟨w.heap.size, 0, none⟩ = some (.bool false) := (blk_cell HK3.out 0).trans rfl
    have e1 : w3.cell? ⟨w.heap.size, 1, none⟩ = some (.string o1) := (blk_cell HK3.out 1).trans rfl
    have e2 : w3.cell? ⟨w.heap.size, 2, none⟩ = some (.string o2) := (blk_cell HK3.out 2).trans rfl
    have e3 : w3.cell? ⟨gs, 0, none⟩ = some (.slice A xs.length c) := (blk_cell HV3.out 0).trans rfl
    have f3 := blk_frozen HV3.out 0
    go_wp2_with (fail)
    go_ret
    exact ⟨rfl, HB0.out.trans (HBB3.out.mono hbw), fun h => absurd h (by decide)⟩)
end Go.Proofs.YtnhhbmekjoanbaaDoor.P
namespace Go.Proofs.YtnhhbmekjoanbaaDoor.P
open Go Go.RowKit Go.Proofs.YtnhhbmekjoanbaaDoorW.PrintWords Go.Proofs.YtnhhbmekjoanbaaDoorW.PrintLast Go.Proofs.YtnhhbmekjoanbaaDoorW.PrintMore
attribute [local go_sem] max2_int min2_int max_two min_two max_three min_three max_four min_four
set_option linter.unusedVariables false
set_option linter.unusedSimpArgs false
set_option maxHeartbeats 8000000 in
set_option maxRecDepth 100000 in
theorem app_gone (w0 w : World) (base gs : Nat) (xs : List S49) (o0 : Bool) (o1 o2 : ByteArray) (hs : SetP w0 w base gs xs) (hl : xs.length ≤ 1000) (hp : pathB o1 = true) (hg : o0 = true) (hi : isF o1 xs = true) :
    Calls Tryd.prog 38 #[.pointer (some ⟨gs, 0, none⟩), .agg #[.bool o0, .string o1, .string o2]] w (AppP w0 base gs 0 (xs.eraseIdx (atF o1 xs))) := by
  obtain ⟨v, hv, ho, hb0, hbs⟩ := hs
  have hu := Tryd.underlying45
  have hu2 := Tryd.underlying60
  have mixed : Tryd.prog.follows .mixedOrders = true := by kernel_rfl
  have hgl : gs < w.heap.size := (Array.getElem?_eq_some_iff.1 hv).1
  have hbw : base ≤ w.heap.size := by omega
  have hA := Aside0.mk (blk_new w (.cells #[.bool o0, .string o1, .string o2] 45 (0, 0)))
  have hB := Aside0.mk ((Below.refl w.heap.size w).alloc (Nat.le_refl _) (.cells #[.bool o0, .string o1, .string o2] 45 (0, 0)))
  have c1 : (w.alloc (.cells #[.bool o0, .string o1, .string o2] 45 (0, 0))).cell? ⟨w.heap.size, 1, none⟩ = some (.string o1) := (blk_cell hA.out 1).trans rfl
  have HP := Aside0.mk (show files_Path.f o1 = some true from congrArg some hp)
  have HV := Aside0.mk hv
  have HO := Aside0.mk ho
  have HB0 := Aside0.mk hb0
  have HL := Aside0.mk hl
  clear hb0 hp hl
  obtain ⟨A, n, c, rfl⟩ : ∃ A n c, v = .slice A n c := by
    rcases ho.form with ⟨rfl, _⟩ | ⟨g, c, rfl⟩
    · exact ⟨_, _, _, rfl⟩
    · exact ⟨_, _, _, rfl⟩
  clear ho hv
  obtain ⟨rfl, hnc, hCw⟩ := own_C HO.out HL.out
  have HNC := Aside0.mk hnc
  have CB := Aside0.mk (fun (W : World) (h : Below w.heap.size w W) => binary_any o1 A c xs W (Kd.C_below hCw h) HNC.out (by have := HL.out; omega) (atF o1 xs) rfl (isF o1 xs) rfl)
  have HLE := Aside0.mk (atF_le o1 xs)
  have HIS := Aside0.mk (show isF o1 xs = (decide (atF o1 xs < xs.length) && (cmpS (rd_T49 xs (atF o1 xs : Int)).f0 o1 == 0)) from rfl)
  clear hCw hnc
  have hlt : atF o1 xs < xs.length := by
    have h := HIS.out
    rw [hi] at h
    have h2 := (Bool.and_eq_true_iff.1 h.symm).1
    simpa using h2
  obtain ⟨g, rfl⟩ : ∃ g, A = some ⟨g, 0, none⟩ := by
    rcases HO.out.form with ⟨_, h⟩ | ⟨g, c', h⟩
    · rw [h] at hlt; simp at hlt
    · injection h with h1; exact ⟨g, h1⟩
  obtain ⟨-, hbg, cur, hcur, -⟩ := HO.out.open
  have hgg : gs ≠ g := by
    intro e; subst e; rw [HV.out] at hcur
    injection hcur with hcur; injection hcur with h1 h2; exact absurd h2 (by decide)
  have HGG := Aside0.mk hgg
  have HLT := Aside0.mk hlt
  clear hlt hgg cur hcur
  subst hg
  rw [hi] at CB
  generalize hat : atF o1 xs = at_ at *
  go_enter Tryd.func38, Tryd.ntmps38
  go_wp2_with (go_at_call 14; refine (files_Path.calls _ _ _ HP.out).mono ?_; rintro e w2 ⟨rfl, hb⟩; have HBB := Aside0.mk (below_step hB.out hb); have HK := Aside0.mk (blk_below hA.out hb); have HV2 := Aside0.mk (HBB.out.block gs hgl |>.trans HV.out); clear hb c1; have d1 : w2.cell? ⟨w.heap.size, 1, none⟩ = some (.string o1) := (blk_cell HK.out 1).trans rfl; have d2 : w2.cell? ⟨gs, 0, none⟩ = some _ := (blk_cell HV2.out 0).trans rfl)
  go_region_with (go_at_call 53; refine (CB.out _ ?_).mono ?_; exact below_drew HBB.out; rintro e w3 ⟨rfl, hb3⟩)
  all_goals (
    (try simp only [Act.put, List.setIfInBounds_toArray, List.set_cons_zero, List.set_cons_succ])
    have HBB3 := Aside0.mk (below_step (below_drew HBB.out) hb3)
    have HK3 := Aside0.mk (blk_below (blk_drew HK.out) hb3)
    have HV3 := Aside0.mk (blk_below (blk_drew HV2.out) hb3)
    clear hb3 d1 d2
    have e0 : w3.cell? ⟨w.heap.size, 0, none⟩ = some (.bool true) := (blk_cell HK3.out 0).trans rfl
    have e1 : w3.cell? ⟨w.heap.size, 1, none⟩ = some (.string o1) := (blk_cell HK3.out 1).trans rfl
    have e2 : w3.cell? ⟨w.heap.size, 2, none⟩ = some (.string o2) := (blk_cell HK3.out 2).trans rfl
    have e3 : w3.cell? ⟨gs, 0, none⟩ = some (.slice (some ⟨g, 0, none⟩) xs.length c) := (blk_cell HV3.out 0).trans rfl
    have f3 := blk_frozen HV3.out 0
    have hO3 := OwnF.below HO.out HBB3.out
    have CD := Aside0.mk (delete_calls g c at_ xs w3 base hO3 HLT.out (Nat.le_trans hbw HBB3.out.size))
    clear hO3
    have hw1 : IntKind.i64.wrap ((at_ : Int) + 1) = (at_ : Int) + 1 := by rw [IntKind.wrap_i64]; have := HLT.out; have := HL.out; omega
    go_wp2_with (go_at_call 55; refine CD.out.mono ?_; rintro e w4 ⟨rfl, ho4, hg4⟩; have HO4 := Aside0.mk ho4; have HG4 := Aside0.mk hg4; have HV4 := Aside0.mk ((hg4.block gs (Nat.lt_of_lt_of_le hgl HBB3.out.size) (fun e => by injection e with e; exact HGG.out e)).trans HV3.out); clear ho4 hg4 e3 f3; have e4 : w4.cell? ⟨gs, 0, none⟩ = some (.slice (some ⟨g, 0, none⟩) xs.length c) := (blk_cell HV4.out 0).trans rfl; have f4 := blk_frozen HV4.out 0)
    go_ret
    exact ⟨rfl, HB0.out.trans (((HBB3.out.mono hbw).grown HG4.out (Nat.le_trans hbw HBB3.out.size) (fun k hk => by injection hk with hk; subst hk; exact hbg)).setCell (p := ⟨gs, 0, none⟩) hbs _),
      fun _ => ⟨_, blk_put HV4.out 0 _ rfl, HO4.out.far (fun k hk => by simp [Value.ownBlock] at hk; subst hk; exact Ne.symm HGG.out) _, HB0.out.trans (((HBB3.out.mono hbw).grown HG4.out (Nat.le_trans hbw HBB3.out.size) (fun k hk => by injection hk with hk; subst hk; exact hbg)).setCell (p := ⟨gs, 0, none⟩) hbs _), hbs⟩⟩)
end Go.Proofs.YtnhhbmekjoanbaaDoor.P
namespace Go.Proofs.YtnhhbmekjoanbaaDoor.P
open Go Go.RowKit Go.Proofs.YtnhhbmekjoanbaaDoorW.PrintWords Go.Proofs.YtnhhbmekjoanbaaDoorW.PrintLast Go.Proofs.YtnhhbmekjoanbaaDoorW.PrintMore
attribute [local go_sem] max2_int min2_int max_two min_two max_three min_three max_four min_four
set_option linter.unusedVariables false
set_option linter.unusedSimpArgs false
set_option maxHeartbeats 8000000 in
set_option maxRecDepth 100000 in
theorem app_set (w0 w : World) (base gs : Nat) (xs : List S49) (o0 : Bool) (o1 o2 : ByteArray) (hs : SetP w0 w base gs xs) (hl : xs.length ≤ 1000) (hp : pathB o1 = true) (hg : o0 = false) (hz : ¬ o2.size > 4096) (hi : isF o1 xs = true) :
    Calls Tryd.prog 38 #[.pointer (some ⟨gs, 0, none⟩), .agg #[.bool o0, .string o1, .string o2]] w (AppP w0 base gs 0 (xs.set (atF o1 xs) ⟨(rd_T49 xs (atF o1 xs : Int)).f0, o2⟩)) := by
  obtain ⟨v, hv, ho, hb0, hbs⟩ := hs
  have hu := Tryd.underlying45
  have hu2 := Tryd.underlying60
  have mixed : Tryd.prog.follows .mixedOrders = true := by kernel_rfl
  have hgl : gs < w.heap.size := (Array.getElem?_eq_some_iff.1 hv).1
  have hbw : base ≤ w.heap.size := by omega
  have hA := Aside0.mk (blk_new w (.cells #[.bool o0, .string o1, .string o2] 45 (0, 0)))
  have hB := Aside0.mk ((Below.refl w.heap.size w).alloc (Nat.le_refl _) (.cells #[.bool o0, .string o1, .string o2] 45 (0, 0)))
  have c1 : (w.alloc (.cells #[.bool o0, .string o1, .string o2] 45 (0, 0))).cell? ⟨w.heap.size, 1, none⟩ = some (.string o1) := (blk_cell hA.out 1).trans rfl
  have HP := Aside0.mk (show files_Path.f o1 = some true from congrArg some hp)
  have HV := Aside0.mk hv
  have HO := Aside0.mk ho
  have HB0 := Aside0.mk hb0
  have HL := Aside0.mk hl
  clear hb0 hp hl
  obtain ⟨A, n, c, rfl⟩ : ∃ A n c, v = .slice A n c := by
    rcases ho.form with ⟨rfl, _⟩ | ⟨g, c, rfl⟩
    · exact ⟨_, _, _, rfl⟩
    · exact ⟨_, _, _, rfl⟩
  clear ho hv
  obtain ⟨rfl, hnc, hCw⟩ := own_C HO.out HL.out
  have HNC := Aside0.mk hnc
  have CB := Aside0.mk (fun (W : World) (h : Below w.heap.size w W) => binary_any o1 A c xs W (Kd.C_below hCw h) HNC.out (by have := HL.out; omega) (atF o1 xs) rfl (isF o1 xs) rfl)
  have HLE := Aside0.mk (atF_le o1 xs)
  have HIS := Aside0.mk (show isF o1 xs = (decide (atF o1 xs < xs.length) && (cmpS (rd_T49 xs (atF o1 xs : Int)).f0 o1 == 0)) from rfl)
  clear hCw hnc
  have hlt : atF o1 xs < xs.length := by
    have h := HIS.out
    rw [hi] at h
    have h2 := (Bool.and_eq_true_iff.1 h.symm).1
    simpa using h2
  obtain ⟨g, rfl⟩ : ∃ g, A = some ⟨g, 0, none⟩ := by
    rcases HO.out.form with ⟨_, h⟩ | ⟨g, c', h⟩
    · rw [h] at hlt; simp at hlt
    · injection h with h1; exact ⟨g, h1⟩
  obtain ⟨-, hbg, cur, hcur, -⟩ := HO.out.open
  have hgg : gs ≠ g := by
    intro e; subst e; rw [HV.out] at hcur
    injection hcur with hcur; injection hcur with h1 h2; exact absurd h2 (by decide)
  have HGG := Aside0.mk hgg
  have HLT := Aside0.mk hlt
  clear hlt hgg cur hcur
  subst hg
  rw [hi] at CB
  have z1 : decide (4096 < (o2.size : Int)) = false := decide_eq_false (by omega)
  have z2 : decide (4096 < o2.size) = false := decide_eq_false (by omega)
  generalize hat : atF o1 xs = at_ at *
  go_enter Tryd.func38, Tryd.ntmps38
  go_wp2_with (go_at_call 14; refine (files_Path.calls _ _ _ HP.out).mono ?_; rintro e w2 ⟨rfl, hb⟩; have HBB := Aside0.mk (below_step hB.out hb); have HK := Aside0.mk (blk_below hA.out hb); have HV2 := Aside0.mk (HBB.out.block gs hgl |>.trans HV.out); clear hb c1; have d1 : w2.cell? ⟨w.heap.size, 1, none⟩ = some (.string o1) := (blk_cell HK.out 1).trans rfl; have d2 : w2.cell? ⟨gs, 0, none⟩ = some _ := (blk_cell HV2.out 0).trans rfl)
  go_region_with (go_at_call 53; refine (CB.out _ ?_).mono ?_; exact below_drew HBB.out; rintro e w3 ⟨rfl, hb3⟩)
  all_goals (
    (try simp only [Act.put, List.setIfInBounds_toArray, List.set_cons_zero, List.set_cons_succ])
    have HBB3 := Aside0.mk (below_step (below_drew HBB.out) hb3)
    have HK3 := Aside0.mk (blk_below (blk_drew HK.out) hb3)
    have HV3 := Aside0.mk (blk_below (blk_drew HV2.out) hb3)
    clear hb3 d1 d2
    have e0 : w3.cell? ⟨w.heap.size, 0, none⟩ = some (.bool false) := (blk_cell HK3.out 0).trans rfl
    have e1 : w3.cell? ⟨w.heap.size, 1, none⟩ = some (.string o1) := (blk_cell HK3.out 1).trans rfl
    have e2 : w3.cell? ⟨w.heap.size, 2, none⟩ = some (.string o2) := (blk_cell HK3.out 2).trans rfl
    have e3 : w3.cell? ⟨gs, 0, none⟩ = some (.slice (some ⟨g, 0, none⟩) xs.length c) := (blk_cell HV3.out 0).trans rfl
    have f3 := blk_frozen HV3.out 0
    have hO3 := Aside0.mk (OwnF.below HO.out HBB3.out)
    obtain ⟨-, -, cur3, hcur3, -, -, -, ht3⟩ := hO3.out.open
    have hx3 := flatF_get (List.getElem?_eq_getElem HLT.out) (r := 1) (by omega)
    rw [← ht3, List.getElem?_take, if_pos (by have := HLT.out; omega), Array.getElem?_toList] at hx3
    have g3 : w3.cell? ⟨g, at_ * 2 + 1, none⟩ = some (.string (xs[at_]'HLT.out).f1) := (cell_of_row w3 g _ cur3 _ (0, 0) hcur3).trans hx3
    have f4 := blk_frozen hcur3 (at_ * 2 + 1)
    have p0 : (0 : Int) ≤ (at_ : Int) := by omega
    have p1 : (at_ : Int) < (xs.length : Int) := by have := HLT.out; omega
    clear hcur3 ht3 hx3
    go_wp2_with (fail)
    go_region
    all_goals (
      go_wp2_with (fail)
      go_ret
      have HW := Aside0.mk (HB0.out.trans (((HBB3.out.mono hbw).setCell (p := ⟨g, at_ * 2 + 1, none⟩) hbg (.string o2)).drew))
      exact ⟨rfl, HW.out, fun _ => ⟨_, blk_drew ((Below.heap_setCell w3 ⟨g, at_ * 2 + 1, none⟩ (.string o2) gs (fun e => HGG.out e)).trans HV3.out), (hO3.out.put HLT.out o2).drew, HW.out, hbs⟩⟩))
end Go.Proofs.YtnhhbmekjoanbaaDoor.P
namespace Go.Proofs.YtnhhbmekjoanbaaDoor.P
open Go Go.RowKit Go.Proofs.YtnhhbmekjoanbaaDoorW.PrintWords Go.Proofs.YtnhhbmekjoanbaaDoorW.PrintLast Go.Proofs.YtnhhbmekjoanbaaDoorW.PrintMore
attribute [local go_sem] max2_int min2_int max_two min_two max_three min_three max_four min_four
set_option linter.unusedVariables false
set_option linter.unusedSimpArgs false
theorem ins_form {w : World} {base : Nat} {v : Value} {xs : List S49} {i : Nat} {x : S49} (h : OwnF w base v (xs.take i ++ x :: xs.drop i)) : ∃ g n c, v = .slice (some ⟨g, 0, none⟩) n c := by
  rcases h.form with ⟨_, h1⟩ | ⟨g, c, h1⟩
  · simp at h1
  · exact ⟨g, _, c, h1⟩
set_option maxHeartbeats 8000000 in
set_option maxRecDepth 100000 in
theorem app_ins (w0 w : World) (base gs : Nat) (xs : List S49) (o0 : Bool) (o1 o2 : ByteArray) (hs : SetP w0 w base gs xs) (hl : xs.length ≤ 1000) (hp : pathB o1 = true) (hg : o0 = false) (hz : ¬ o2.size > 4096) (hi : isF o1 xs = false) (hf : xs.length ≠ 40) :
    Calls Tryd.prog 38 #[.pointer (some ⟨gs, 0, none⟩), .agg #[.bool o0, .string o1, .string o2]] w (AppP w0 base gs 0 (xs.take (atF o1 xs) ++ ⟨o1, o2⟩ :: xs.drop (atF o1 xs))) := by
  obtain ⟨v, hv, ho, hb0, hbs⟩ := hs
  have hu := Tryd.underlying45
  have hu2 := Tryd.underlying60
  have mixed : Tryd.prog.follows .mixedOrders = true := by kernel_rfl
  have hgl : gs < w.heap.size := (Array.getElem?_eq_some_iff.1 hv).1
  have hbw : base ≤ w.heap.size := by omega
  have hA := Aside0.mk (blk_new w (.cells #[.bool o0, .string o1, .string o2] 45 (0, 0)))
  have hB := Aside0.mk ((Below.refl w.heap.size w).alloc (Nat.le_refl _) (.cells #[.bool o0, .string o1, .string o2] 45 (0, 0)))
  have c1 : (w.alloc (.cells #[.bool o0, .string o1, .string o2] 45 (0, 0))).cell? ⟨w.heap.size, 1, none⟩ = some (.string o1) := (blk_cell hA.out 1).trans rfl
  have HP := Aside0.mk (show files_Path.f o1 = some true from congrArg some hp)
  have HV := Aside0.mk hv
  have HO := Aside0.mk ho
  have HB0 := Aside0.mk hb0
  have HL := Aside0.mk hl
  clear hb0 hp hl
  obtain ⟨A, n, c, rfl⟩ : ∃ A n c, v = .slice A n c := by
    rcases ho.form with ⟨rfl, _⟩ | ⟨g, c, rfl⟩
    · exact ⟨_, _, _, rfl⟩
    · exact ⟨_, _, _, rfl⟩
  clear ho hv
  obtain ⟨rfl, hnc, hCw⟩ := own_C HO.out HL.out
  have HNC := Aside0.mk hnc
  have CB := Aside0.mk (fun (W : World) (h : Below w.heap.size w W) => binary_any o1 A c xs W (Kd.C_below hCw h) HNC.out (by have := HL.out; omega) (atF o1 xs) rfl (isF o1 xs) rfl)
  have HLE := Aside0.mk (atF_le o1 xs)
  have HIS := Aside0.mk (show isF o1 xs = (decide (atF o1 xs < xs.length) && (cmpS (rd_T49 xs (atF o1 xs : Int)).f0 o1 == 0)) from rfl)
  clear hCw hnc
  have HGA := Aside0.mk (show some gs ≠ (Value.slice A xs.length c).ownBlock from by
    rcases HO.out.form with ⟨h, _⟩ | ⟨g, c', h⟩
    · rw [h]; simp [Value.ownBlock]
    · injection h with h1; subst h1
      obtain ⟨-, hbg, cur, hcur, -⟩ := HO.out.open
      intro e
      simp only [Value.ownBlock, Option.some.injEq] at e
      subst e; rw [HV.out] at hcur
      injection hcur with hcur; injection hcur with h1 h2; exact absurd h2 (by decide))
  subst hg
  rw [hi] at CB
  have z1 : decide (4096 < (o2.size : Int)) = false := decide_eq_false (by omega)
  have z2 : decide (4096 < o2.size) = false := decide_eq_false (by omega)
  have y1 : ((xs.length : Int) == 40) = false := by rw [beq_eq_false_iff_ne]; omega
  have y2 : (xs.length == 40) = false := by rw [beq_eq_false_iff_ne]; exact hf
  clear hf
  generalize hat : atF o1 xs = at_ at *
  go_enter Tryd.func38, Tryd.ntmps38
  go_wp2_with (go_at_call 14; refine (files_Path.calls _ _ _ HP.out).mono ?_; rintro e w2 ⟨rfl, hb⟩; have HBB := Aside0.mk (below_step hB.out hb); have HK := Aside0.mk (blk_below hA.out hb); have HV2 := Aside0.mk (HBB.out.block gs hgl |>.trans HV.out); clear hb c1; have d1 : w2.cell? ⟨w.heap.size, 1, none⟩ = some (.string o1) := (blk_cell HK.out 1).trans rfl; have d2 : w2.cell? ⟨gs, 0, none⟩ = some _ := (blk_cell HV2.out 0).trans rfl)
  go_region_with (go_at_call 53; refine (CB.out _ ?_).mono ?_; exact below_drew HBB.out; rintro e w3 ⟨rfl, hb3⟩)
  all_goals (
    (try simp only [Act.put, List.setIfInBounds_toArray, List.set_cons_zero, List.set_cons_succ])
    have HBB3 := Aside0.mk (below_step (below_drew HBB.out) hb3)
    have HK3 := Aside0.mk (blk_below (blk_drew HK.out) hb3)
    have HV3 := Aside0.mk (blk_below (blk_drew HV2.out) hb3)
    clear hb3 d1 d2
    have e0 : w3.cell? ⟨w.heap.size, 0, none⟩ = some (.bool false) := (blk_cell HK3.out 0).trans rfl
    have e1 : w3.cell? ⟨w.heap.size, 1, none⟩ = some (.string o1) := (blk_cell HK3.out 1).trans rfl
    have e2 : w3.cell? ⟨w.heap.size, 2, none⟩ = some (.string o2) := (blk_cell HK3.out 2).trans rfl
    have e3 : w3.cell? ⟨gs, 0, none⟩ = some (.slice A xs.length c) := (blk_cell HV3.out 0).trans rfl
    have f3 := blk_frozen HV3.out 0
    have CI := Aside0.mk (fun (W : World) (h : Below w.heap.size w W) => show Calls Tryd.prog 56 #[.slice A xs.length c, .int .i64 (at_ : Int), .slice (some ⟨W.heap.size, 0, none⟩) 1 1] (W.alloc (.cells #[.string o1, .string o2] 49)).drew (InsP W.drew base (.slice A xs.length c) xs at_ ⟨o1, o2⟩) from insert_calls W.drew (.slice A xs.length c) base at_ xs ⟨o1, o2⟩ (OwnF.below HO.out (below_drew h)) (Nat.le_trans hbw h.size) HLE.out HL.out)
    have e5 : (w3.alloc (.cells #[.string o1, .string o2] 49)).cell? ⟨gs, 0, none⟩ = some (.slice A xs.length c) := (blk_cell (blk_alloc HV3.out _) 0).trans rfl
    go_wp2_with (fail)
    go_region_with (go_at_call 56; refine (CI.out _ ?_).mono ?_; exact HBB3.out; rintro e w4 ⟨v4, rfl, ho4, hb4, hk4⟩; obtain ⟨g4, n4, c4, rfl⟩ := ins_form ho4; have HV4 := Aside0.mk ((hk4 gs (Nat.lt_of_lt_of_le hgl HBB3.out.size) (HGA.out)).trans (blk_drew HV3.out)); have HO4 := Aside0.mk ho4; have HB4 := Aside0.mk hb4; clear ho4 hb4 hk4; have e4 : w4.cell? ⟨gs, 0, none⟩ = some _ := (blk_cell HV4.out 0).trans rfl; have f4 := blk_frozen HV4.out 0)
    all_goals (
      go_wp2_with (fail)
      go_ret
      have hne : g4 ≠ gs := by
        obtain ⟨-, -, cur4, hcur4, -⟩ := HO4.out.open
        intro e; subst e; rw [HV4.out] at hcur4
        injection hcur4 with hcur4; injection hcur4 with h1 h2; exact absurd h2 (by decide)
      have HW := Aside0.mk (HB0.out.trans (((below_drew (HBB3.out.mono hbw)).trans HB4.out).setCell (p := ⟨gs, 0, none⟩) hbs (.slice (some ⟨g4, 0, none⟩) n4 c4)))
      exact ⟨rfl, HW.out, fun _ => ⟨_, blk_put HV4.out 0 _ rfl, HO4.out.far (fun k hk => by simp [Value.ownBlock] at hk; subst hk; exact hne) _, HW.out, hbs⟩⟩))
end Go.Proofs.YtnhhbmekjoanbaaDoor.P
namespace Go.Proofs.YtnhhbmekjoanbaaDoor.P
open Go Go.RowKit Go.Proofs.YtnhhbmekjoanbaaDoorW.PrintWords Go.Proofs.YtnhhbmekjoanbaaDoorW.PrintLast Go.Proofs.YtnhhbmekjoanbaaDoorW.PrintMore
attribute [local go_sem] max2_int min2_int max_two min_two max_three min_three max_four min_four
set_option linter.unusedVariables false
set_option linter.unusedSimpArgs false
set_option maxHeartbeats 4000000 in
set_option maxRecDepth 100000 in
theorem app_path (w0 w : World) (base gs : Nat) (xs : List S49) (o0 : Bool) (o1 o2 : ByteArray) (hs : SetP w0 w base gs xs) (hp : pathB o1 = false) :
    Calls Tryd.prog 38 #[.pointer (some ⟨gs, 0, none⟩), .agg #[.bool o0, .string o1, .string o2]] w (AppP w0 base gs 6 xs) := by
  obtain ⟨v, hv, ho, hb0, hbs⟩ := hs
  have hu := Tryd.underlying45
  have hgl : gs < w.heap.size := (Array.getElem?_eq_some_iff.1 hv).1
  have hbw : base ≤ w.heap.size := by omega
  have hA := Aside0.mk (blk_new w (.cells #[.bool o0, .string o1, .string o2] 45 (0, 0)))
  have hB := Aside0.mk ((Below.refl w.heap.size w).alloc (Nat.le_refl _) (.cells #[.bool o0, .string o1, .string o2] 45 (0, 0)))
  have c1 : (w.alloc (.cells #[.bool o0, .string o1, .string o2] 45 (0, 0))).cell? ⟨w.heap.size, 1, none⟩ = some (.string o1) := (blk_cell hA.out 1).trans rfl
  have HP := Aside0.mk (show files_Path.f o1 = some false from congrArg some hp)
  have HB0 := Aside0.mk hb0
  clear hb0 hp ho hv
  go_enter Tryd.func38, Tryd.ntmps38
  go_wp2_with (go_at_call 14; refine (files_Path.calls _ _ _ HP.out).mono ?_; rintro e w2 ⟨rfl, hb⟩; have HBB := Aside0.mk (below_step hB.out hb); clear hb c1)
  go_ret
  exact ⟨rfl, HB0.out.trans (HBB.out.mono hbw), fun h => absurd h (by decide)⟩
/-- What comes of files by one op. -/
def stepF (xs : List S49) (o : S45) : List S49 × Int :=
  if pathB o.f1 = true then
    (if o.f0 = true then (if isF o.f1 xs = true then (xs.eraseIdx (atF o.f1 xs), 0) else (xs, 5))
    else if o.f2.size > 4096 then (xs, 2)
    else if isF o.f1 xs = true then (xs.set (atF o.f1 xs) ⟨(rd_T49 xs (atF o.f1 xs : Int)).f0, o.f2⟩, 0)
    else if xs.length = 40 then (xs, 3)
    else (xs.take (atF o.f1 xs) ++ ⟨o.f1, o.f2⟩ :: xs.drop (atF o.f1 xs), 0))
  else (xs, 6)
theorem stepF_len (xs : List S49) (o : S45) (h : xs.length ≤ 40) : (stepF xs o).1.length ≤ 40 := by
  have ha := atF_le o.f1 xs
  unfold stepF
  split
  · split
    · split
      · rw [List.length_eraseIdx]; split <;> omega
      · exact h
    · split
      · exact h
      · split
        · rw [List.length_set]; exact h
        · split
          · exact h
          · rw [List.length_append, List.length_take, List.length_cons, List.length_drop]; omega
  · exact h
theorem apply_calls (w0 w : World) (base gs : Nat) (xs : List S49) (o : S45) (hs : SetP w0 w base gs xs) (hl : xs.length ≤ 40) :
    Calls Tryd.prog 38 #[.pointer (some ⟨gs, 0, none⟩), .agg #[.bool o.f0, .string o.f1, .string o.f2]] w (AppP w0 base gs (stepF xs o).2 (stepF xs o).1) := by
  obtain ⟨o0, o1, o2⟩ := o
  have hl2 : xs.length ≤ 1000 := by omega
  unfold stepF
  dsimp only
  by_cases hp : pathB o1 = true
  · rw [if_pos hp]
    by_cases hg : o0 = true
    · rw [if_pos hg]
      by_cases hi : isF o1 xs = true
      · rw [if_pos hi]; exact app_gone w0 w base gs xs o0 o1 o2 hs hl2 hp hg hi
      · rw [if_neg hi]; exact app_none w0 w base gs xs o0 o1 o2 hs hl2 hp hg (by simpa using hi)
    · rw [if_neg hg]
      have hg' : o0 = false := by simpa using hg
      by_cases hz : o2.size > 4096
      · rw [if_pos hz]; exact app_size w0 w base gs xs o0 o1 o2 hs hl2 hp hg' hz _ rfl
      · rw [if_neg hz]
        by_cases hi : isF o1 xs = true
        · rw [if_pos hi]; exact app_set w0 w base gs xs o0 o1 o2 hs hl2 hp hg' hz hi
        · rw [if_neg hi]
          have hi' : isF o1 xs = false := by simpa using hi
          by_cases hf : xs.length = 40
          · rw [if_pos hf]; exact app_full w0 w base gs xs o0 o1 o2 hs hl2 hp hg' hz hi' hf
          · rw [if_neg hf]; exact app_ins w0 w base gs xs o0 o1 o2 hs hl2 hp hg' hz hi' hf
  · rw [if_neg hp]; exact app_path w0 w base gs xs o0 o1 o2 hs (by simpa using hp)
/-- What comes of files by ops, one behind the other; why not. -/
def runF : List S49 → List S45 → List S49 × Int
  | xs, [] => (xs, 0)
  | xs, o :: r => if (stepF xs o).2 = 0 then runF (stepF xs o).1 r else ([], (stepF xs o).2)
theorem SetP.below {w0 W W' : World} {base gs : Nat} {xs : List S49} (h : SetP w0 W base gs xs) (hb : Below W.heap.size W W') : SetP w0 W' base gs xs := by
  obtain ⟨v, hv, ho, hb0, hbs⟩ := h
  have hgl : gs < W.heap.size := (Array.getElem?_eq_some_iff.1 hv).1
  exact ⟨v, blk_below hv hb, ho.below hb, hb0.trans (hb.mono (by omega)), hbs⟩
theorem SetP.base {w0 W : World} {base gs : Nat} {xs : List S49} (h : SetP w0 W base gs xs) : Below base w0 W := by
  obtain ⟨v, hv, ho, hb0, hbs⟩ := h
  exact hb0
set_option maxHeartbeats 8000000 in
set_option maxRecDepth 100000 in
theorem apply_may (A0 A1 : Option Addr) (c0 c1 : Nat) (l : List S49) (ops : List S45) (w : World) (ha : Kd.C k49 w A0 l.length l) (ga : l.length ≤ c0) (hm : mayB l = false) :
    Calls Tryd.prog 21 #[.slice A0 l.length c0, .slice A1 ops.length c1] w fun e w' => e = .returned (.tuple #[.slice none 0 0, .int .i64 1]) ∧ Below w.heap.size w w' := by
  have CA := Aside0.mk (may_calls A0 c0 l w ha ga)
  rw [hm] at CA
  clear ha ga hm
  go_enter Tryd.func21, Tryd.ntmps21
  go_wp2_with (go_at_call 16; refine CA.out.mono ?_; rintro e w2 ⟨rfl, hb⟩; have HB := Aside0.mk hb; clear hb)
  go_ret2
  exact ⟨rfl, HB.out⟩
set_option maxHeartbeats 8000000 in
set_option maxRecDepth 100000 in
theorem apply_loop (A0 A1 : Option Addr) (c0 c1 : Nat) (l : List S49) (ops : List S45) (r1 : List S49) (r2 : Int) (w : World) (ha : Kd.C k49 w A0 l.length l) (ga : l.length ≤ c0) (hb : Kd.C k45 w A1 ops.length ops) (gb : ops.length ≤ c1) (hm : mayB l = true) (hr : runF l ops = (r1, r2)) :
    Calls Tryd.prog 21 #[.slice A0 l.length c0, .slice A1 ops.length c1] w fun e w' => ∃ v, e = .returned (.tuple #[v, .int .i64 r2]) ∧ OwnF w' w.heap.size v r1 ∧ Below w.heap.size w w' := by
  have CA := Aside0.mk (may_calls A0 c0 l w ha ga)
  have LA := Aside0.mk (show l.length ≤ 40 by unfold mayB at hm; simp only [Bool.and_eq_true, decide_eq_true_eq] at hm; exact hm.1)
  rw [hm] at CA
  have CC := Aside0.mk (fun (W : World) (h : Below w.heap.size w W) => clone_calls A0 c0 l W (Kd.C_below ha h) (by have := LA.out; omega))
  have HOP := Aside0.mk hb
  have HN := Aside0.mk hb.2.1
  have GB := Aside0.mk gb
  have HR := Aside0.mk hr
  clear ha ga hb gb hm hr
  have hu := Tryd.underlying45
  have hu2 := Tryd.underlying60
  go_enter Tryd.func21, Tryd.ntmps21
  go_wp2_with (fail)
  refine CA.out.mono ?_
  rintro e w2 ⟨rfl, hb⟩
  have HB2 := Aside0.mk hb
  clear hb CA
  go_wp2_with (go_at_call 37; refine (CC.out _ HB2.out).mono ?_; rintro e w3 ⟨v, rfl, ho3, hb3⟩; obtain ⟨A, n, c, rfl⟩ : (∃ A n c, v = .slice A n c) := (by rcases ho3.form with ⟨rfl, _⟩ | ⟨g, c, rfl⟩ <;> exact ⟨_, _, _, rfl⟩); have HO3 := Aside0.mk ho3; have HB3 := Aside0.mk hb3; clear ho3 hb3)
  have HS := Aside0.mk (show SetP w (w3.alloc (.cells #[.slice A n c] 60)) w.heap.size w3.heap.size l from
    ⟨_, blk_new w3 _, (OwnF.of (Kd.R_lower HO3.out.to HB2.out.size)).below ((Below.refl _ w3).alloc (Nat.le_refl _) _), (below_step HB2.out HB3.out).alloc (Nat.le_trans HB2.out.size HB3.out.size) _, Nat.le_trans HB2.out.size HB3.out.size⟩)
  generalize w3.heap.size = gs at *
  clear HO3 HB3 HB2 CC
  go_loopg [19] ops.length (fun kq v19 W => ∃ (i : Nat) (xs : List S49), v19 = .int .i64 (i : Int) ∧ Aside0 (kq + i = ops.length) ∧ Aside0 (runF xs (ops.drop i) = (r1, r2)) ∧ Aside0 (xs.length ≤ 40) ∧ Aside0 (SetP w W w.heap.size gs xs))
  case atStart => exact ⟨0, l, rfl, ⟨by omega⟩, ⟨HR.out⟩, ⟨LA.out⟩, HS⟩
  case round =>
    clear HS HR
    obtain ⟨i, xs, rfl, HI, HX, HL, HS⟩ := hrel
    cases gk with
    | zero =>
      have ei : i = ops.length := by have := HI.out; omega
      subst ei
      have hx := HX.out
      rw [List.drop_length, runF] at hx
      obtain ⟨rfl, rfl⟩ := Prod.mk.inj hx
      obtain ⟨v, hv, ho, hb0, hbs⟩ := HS.out
      obtain ⟨A, n, c, rfl⟩ : (∃ A n c, v = .slice A n c) := (by rcases ho.form with ⟨rfl, _⟩ | ⟨g, c, rfl⟩ <;> exact ⟨_, _, _, rfl⟩)
      have HO := Aside0.mk ho
      have HB := Aside0.mk hb0
      have k0 : wr.cell? ⟨gs, 0, none⟩ = some (.slice A n c) := (blk_cell hv 0).trans rfl
      clear hv ho hb0 hx HX
      go_wp2_with (fail)
      go_ret2
      exact ⟨_, rfl, HO.out, HB.out⟩
    | succ k1 =>
      cases hl : ops.drop i with
      | nil =>
        have := List.drop_eq_nil_iff.1 hl
        have := HI.out
        omega
      | cons x r =>
        obtain ⟨hx1, hi, hr⟩ := rdO_drop hl
        have hx := HX.out
        rw [hl, runF] at hx
        clear HX
        obtain ⟨ad, e1, hy0, hy1, hy2⟩ := at_T45 (Kd.C_below HOP.out HS.out.base) (i : Int) (by omega) (by omega)
        subst e1
        rw [hx1, Int.toNat_natCast] at hy0 hy1 hy2
        have p1 : (i : Int) < (ops.length : Int) := by omega
        have p0 : (0 : Int) ≤ (i : Int) := by omega
        have n0 : decide ((i : Int) < (ops.length : Int)) = true := decide_eq_true p1
        have n1 : decide (i < ops.length) = true := decide_eq_true hi
        have HRI := Aside0.mk hr
        have HII := Aside0.mk hi
        clear hl hr hx1 hi
        obtain ⟨x0, x1, x2⟩ := x
        dsimp only at hy0 hy1 hy2
        have CP := Aside0.mk (fun (W : World) (h : SetP w W w.heap.size gs xs) => apply_calls w W w.heap.size gs xs ⟨x0, x1, x2⟩ h HL.out)
        dsimp only at CP
        have HSL := Aside0.mk (stepF_len xs ⟨x0, x1, x2⟩ HL.out)
        generalize hst : stepF xs ⟨x0, x1, x2⟩ = st at *
        obtain ⟨ys, q⟩ := st
        dsimp only at CP HSL hx
        clear hst
        by_cases hq : q = 0
        · subst hq
          rw [if_pos rfl] at hx
          have HX := Aside0.mk hx
          clear hx
          go_wp2_with (first
            | (refine box_lay 8 rfl rfl 45 rfl #[.bool false, .string ⟨#[]⟩, .string ⟨#[]⟩] (by kernel_rfl) ?_; intro g2 HG w4 HK HW)
            | (refine box_put rfl rfl 45 _ _ rfl g2 _ #[.bool x0, .string x1, .string x2] rfl rfl HK.out rfl rfl (by kernel_rfl) ?_; intro w5 HK5 HW5 HO5 HS5; have HS5 := Aside0.mk (HS.out.below (HW.out.trans (HW5.out.mono (by have := HG.out; omega)))); have d0 : w5.cell? ⟨g2, 0, none⟩ = some (.bool x0) := (blk_cell HK5.out 0).trans rfl; have d1 : w5.cell? ⟨g2, 1, none⟩ = some (.string x1) := (blk_cell HK5.out 1).trans rfl; have d2 : w5.cell? ⟨g2, 2, none⟩ = some (.string x2) := (blk_cell HK5.out 2).trans rfl)
            | (go_at_call 38; refine (CP.out _ HS5.out).mono ?_; rintro e w6 ⟨rfl, hb6, hs6⟩; have HS6 := Aside0.mk (hs6 rfl); clear hb6 hs6))
          go_roundg k1
          case measure => omega
          case rel => exact ⟨i + 1, ys, by have := HII.out; have := HN.out; rw [IntWalk.wrap64_in _ (by omega)]; rfl, ⟨by have := HI.out; omega⟩, ⟨by rw [HRI.out]; exact HX.out⟩, HSL, HS6⟩
        · rw [if_neg hq] at hx
          obtain ⟨rfl, rfl⟩ := Prod.mk.inj hx
          have nc : (q != 0) = true := by simpa using hq
          have nd : decide (q = 0) = false := decide_eq_false hq
          clear hx
          go_wp2_with (first
            | (refine box_lay 8 rfl rfl 45 rfl #[.bool false, .string ⟨#[]⟩, .string ⟨#[]⟩] (by kernel_rfl) ?_; intro g2 HG w4 HK HW)
            | (refine box_put rfl rfl 45 _ _ rfl g2 _ #[.bool x0, .string x1, .string x2] rfl rfl HK.out rfl rfl (by kernel_rfl) ?_; intro w5 HK5 HW5 HO5 HS5; have HS5 := Aside0.mk (HS.out.below (HW.out.trans (HW5.out.mono (by have := HG.out; omega)))); have d0 : w5.cell? ⟨g2, 0, none⟩ = some (.bool x0) := (blk_cell HK5.out 0).trans rfl; have d1 : w5.cell? ⟨g2, 1, none⟩ = some (.string x1) := (blk_cell HK5.out 1).trans rfl; have d2 : w5.cell? ⟨g2, 2, none⟩ = some (.string x2) := (blk_cell HK5.out 2).trans rfl)
            | (go_at_call 38; refine (CP.out _ HS5.out).mono ?_; rintro e w6 ⟨rfl, hb6, hs6⟩; have HB6 := Aside0.mk hb6; clear hb6 hs6))
          go_ret2
          exact ⟨_, rfl, ⟨rfl, .inl ⟨rfl, rfl⟩⟩, HB6.out⟩
def applyB (l : List S49) (ops : List S45) : List S49 × Int := if mayB l = true then runF l ops else ([], 1)
def files_Apply.f (l : List S49) (ops : List S45) : Option (List S49 × Int) := some (applyB l ops)
theorem files_Apply.calls (A0 : Option Addr) (c0 : Nat) (l : List S49) (A1 : Option Addr) (c1 : Nat) (ops : List S45) (r1 : List S49) (r2 : Int) (w : World) (ha : Kd.C k49 w A0 l.length l) (ga : l.length ≤ c0) (hb : Kd.C k45 w A1 ops.length ops) (gb : ops.length ≤ c1) (h : files_Apply.f l ops = some (r1, r2)) :
    Calls Tryd.prog 21 #[.slice A0 l.length c0, .slice A1 ops.length c1] w fun e w' => ∃ v, e = .returned (.tuple #[v, .int .i64 r2]) ∧ Kd.R k49 49 w' w.heap.size (fun _ => True) v r1 ∧ Below w.heap.size w w' := by
  have h := Option.some.inj h
  unfold applyB at h
  cases hm : mayB l with
  | false =>
    rw [hm, if_neg (by decide)] at h
    obtain ⟨rfl, rfl⟩ := Prod.mk.inj h
    refine (apply_may A0 A1 c0 c1 l ops w ha ga hm).mono ?_
    rintro e w' ⟨rfl, h2⟩
    exact ⟨_, rfl, Kd.R_nil .., h2⟩
  | true =>
    rw [hm, if_pos rfl] at h
    refine (apply_loop A0 A1 c0 c1 l ops r1 r2 w ha ga hb gb hm h).mono ?_
    rintro e w' ⟨v, rfl, h1, h2⟩
    exact ⟨v, rfl, h1.to, h2⟩
end Go.Proofs.YtnhhbmekjoanbaaDoor.P
