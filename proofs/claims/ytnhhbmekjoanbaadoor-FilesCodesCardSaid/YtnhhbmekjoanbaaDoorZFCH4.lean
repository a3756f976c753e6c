/- files: cut and first, walked. -/
import Derived.Test.YtnhhbmekjoanbaaDoorZFCM0
import Derived.Test.YtnhhbmekjoanbaaDoorZFCH3
import Derived.Test.YtnhhbmekjoanbaaDoorZFCH1
import Derived.Outline
import Derived.Sort.AtCall
import Derived.Laws.Cover1
import Derived.Test.YtnhhbmekjoanbaaDoorZFCH0
import Derived.RangeFuncNested
import Derived.Shelf.Abstract
import Derived.Shelf.RegionOpen
import Derived.OwnWalkIn
import Derived.TacticsInMore
import Derived.LoopNIn
import Derived.LoopIn
namespace Go.Proofs.YtnhhbmekjoanbaaDoor.P
open Go.RowKit Go.Proofs.YtnhhbmekjoanbaaDoorW.PrintWords Go.Proofs.YtnhhbmekjoanbaaDoorW.PrintLast Go.Proofs.YtnhhbmekjoanbaaDoorW.PrintMore
attribute [local go_sem] max2_int min2_int max_two min_two max_three min_three max_four min_four
set_option linter.unusedVariables false
set_option linter.unusedSimpArgs false
set_option maxHeartbeats 2000000 in
set_option maxRecDepth 100000 in
theorem cut_short (b : Nat) (s : ByteArray) (n : Nat) (w : World) (hb : w.heap[b]? = some (.cells #[.string s] 9 (0, 0))) (h : s.size < n) :
    Calls Tryd.prog 80 #[.pointer (some ⟨b, 0, none⟩), .int .i64 (n : Int)] w fun e w' => e = .returned (.tuple #[.string ⟨#[]⟩, .bool false]) ∧ w' = w := by
  have c0 : w.cell? ⟨b, 0, none⟩ = some (.string s) := (blk_cell hb 0).trans rfl
  have h1 : decide ((s.size : Int) < (n : Int)) = true := decide_eq_true (by omega)
  have h2 : decide (s.size < n) = true := decide_eq_true h
  go_enter Tryd.func80, Tryd.ntmps80
  go_wp2
  go_ret2
  exact ⟨rfl, rfl⟩
set_option maxHeartbeats 2000000 in
set_option maxRecDepth 100000 in
theorem cut_long (b : Nat) (s : ByteArray) (n : Nat) (w : World) (hb : w.heap[b]? = some (.cells #[.string s] 9 (0, 0))) (h : n ≤ s.size) :
    Calls Tryd.prog 80 #[.pointer (some ⟨b, 0, none⟩), .int .i64 (n : Int)] w fun e w' => e = .returned (.tuple #[.string (s.extract 0 n), .bool true]) ∧ w' = w.setCell ⟨b, 0, none⟩ (.string (s.extract n s.size)) := by
  have c0 : w.cell? ⟨b, 0, none⟩ = some (.string s) := (blk_cell hb 0).trans rfl
  have f0 := blk_frozen hb 0
  have h1 : decide ((s.size : Int) < (n : Int)) = false := decide_eq_false (by omega)
  have h2 : decide (s.size < n) = false := decide_eq_false (by omega)
  have p0 : (0 : Int) ≤ (n : Int) := by omega
  have p1 : (n : Int) ≤ (s.size : Int) := by omega
  go_enter Tryd.func80, Tryd.ntmps80
  go_wp2
  go_ret2
  exact ⟨rfl, rfl⟩
/-- What a call may turn that has a text's cell in hand: that cell, and what it lays anew. -/
def Mv (b : Nat) (s0 s : ByteArray) (w W : World) : Prop := W.heap[b]? = some (.cells #[.string s] 9 (0, 0)) ∧ Below w.heap.size w (W.setCell ⟨b, 0, none⟩ (.string s0))
theorem setCell_same {b : Nat} {s : ByteArray} {w : World} (h : w.heap[b]? = some (.cells #[.string s] 9 (0, 0))) : w.setCell ⟨b, 0, none⟩ (.string s) = w := by
  have hs : (w.setCell ⟨b, 0, none⟩ (.string s)).heap = w.heap := by
    apply Array.ext_getElem?
    intro k
    by_cases hk : k = b
    · subst hk
      rw [blk_put (cs := #[.string s]) h 0 (.string s) rfl, h]
      rfl
    · exact Below.heap_setCell w ⟨b, 0, none⟩ (.string s) k hk
  unfold World.setCell at hs ⊢
  dsimp only at hs ⊢
  rw [hs]
theorem setCell_two (w : World) (b : Nat) (x y : Value) : (w.setCell ⟨b, 0, none⟩ x).setCell ⟨b, 0, none⟩ y = w.setCell ⟨b, 0, none⟩ y := by
  unfold World.setCell
  congr 1
  apply Array.ext_getElem?
  intro k
  simp only [Array.getElem?_modify]
  by_cases hk : b = k
  · simp only [hk, if_true]
    cases w.heap[k]? with
    | none => rfl
    | some o => cases o <;> simp
  · simp only [hk, if_false]
theorem Mv.refl {b : Nat} {s : ByteArray} {w : World} (h : w.heap[b]? = some (.cells #[.string s] 9 (0, 0))) : Mv b s s w w := ⟨h, by rw [setCell_same h]; exact Below.refl _ _⟩
theorem Mv.lt {b : Nat} {s0 s : ByteArray} {w W : World} (h : Mv b s0 s w W) : b < W.heap.size := (Array.getElem?_eq_some_iff.1 h.1).1
theorem Mv.size {b : Nat} {s0 s : ByteArray} {w W : World} (h : Mv b s0 s w W) : w.heap.size ≤ W.heap.size := by
  have h1 := h.2.size
  unfold World.setCell at h1
  simpa using h1
theorem Mv.cell {b : Nat} {s0 s : ByteArray} {w W : World} (h : Mv b s0 s w W) (s' : ByteArray) : Mv b s0 s' w (W.setCell ⟨b, 0, none⟩ (.string s')) :=
  ⟨blk_put h.1 0 _ rfl, by rw [setCell_two]; exact h.2⟩
theorem Mv.step {b C : Nat} {s0 s : ByteArray} {w W W1 : World} (hb : b < w.heap.size) (h : Mv b s0 s w W) (hg : Below C W W1) (hC : w.heap.size ≤ C) : Mv b s0 s w W1 := by
  have h1 : W1.heap[b]? = some (.cells #[.string s] 9 (0, 0)) := (hg.block b (by omega)).trans h.1
  refine ⟨h1, ?_⟩
  refine ⟨hg.os.trans h.2.os, hg.tape.trans h.2.tape, hg.output.trans h.2.output, ?_, ?_⟩
  · have := hg.size
    have := h.size
    unfold World.setCell
    simp only [Array.size_modify]
    omega
  · intro k hk
    rw [← h.2.block k hk]
    by_cases hkb : k = b
    · subst hkb
      rw [blk_put h1 0 (.string s0) (cs' := #[.string s0]) rfl, blk_put h.1 0 (.string s0) (cs' := #[.string s0]) rfl]
    · rw [Below.heap_setCell _ _ _ k hkb, Below.heap_setCell _ _ _ k hkb]
      exact hg.block k (by omega)
/-- Whatever abides new memory and a turn of the cell, abides the call. -/
theorem Mv.calm {α : Type} {b : Nat} {s0 s : ByteArray} {w W : World} {J : List α → World → Prop} {pre : List α} (h : Mv b s0 s w W) (hJ : Rg.Calm b J) (hp : J pre w) : J pre W := by
  have h1 := hJ.cell (.string s) (hJ.grow hp h.2)
  rw [setCell_two, setCell_same h.1] at h1
  exact h1
theorem two_bytes (s : ByteArray) (h : 2 ≤ s.size) : s.extract 0 2 = ⟨#[s.get! 0, s.get! 1]⟩ := by
  obtain ⟨⟨l⟩⟩ := s
  match l, h with
  | a :: b :: r, _ =>
    apply ByteArray.ext
    rw [ByteArray.data_extract]
    apply Array.toList_inj.mp
    simp [ByteArray.get!]
theorem num16 (u v : UInt8) : bits .or .i64 (IntKind.i64.wrap (IntKind.i64.wrap (u.toNat : Int) * 256)) (IntKind.i64.wrap (v.toNat : Int)) = ((u.toNat * 256 + v.toNat : Nat) : Int) := by
  have hu := u.toNat_lt
  have hv := v.toNat_lt
  rw [show IntKind.i64.wrap (IntKind.i64.wrap (u.toNat : Int) * 256) = (u.toNat : Int) * 256 by rw [IntKind.wrap_i64, IntKind.wrap_i64]; omega, show IntKind.i64.wrap (v.toNat : Int) = (v.toNat : Int) by rw [IntKind.wrap_i64]; omega]
  rw [bits_join .i64 63 (by decide) (fun n h0 h1 => by rw [IntKind.wrap_i64]; omega) 8 _ _ (by omega) (by omega) (by omega) (by omega) (by omega) (by omega)]
  omega
/-- What first takes off a text: the op, whether there is one, the rest. -/
def firstB (s : ByteArray) : S45 × Bool × ByteArray :=
  if s.size < 2 then (z45, false, s) else
  if 1 < (s.get! 0).toNat then (z45, false, s.extract 2 s.size) else
  if (s.extract 2 s.size).size < (s.get! 1).toNat then (⟨(s.get! 0).toNat == 1, ⟨#[]⟩, ⟨#[]⟩⟩, false, s.extract 2 s.size) else
  if (s.get! 0).toNat = 1 then (⟨true, (s.extract 2 s.size).extract 0 (s.get! 1).toNat, ⟨#[]⟩⟩, true, (s.extract 2 s.size).extract (s.get! 1).toNat (s.extract 2 s.size).size) else
  firstC ((s.extract 2 s.size).extract 0 (s.get! 1).toNat) ((s.extract 2 s.size).extract (s.get! 1).toNat (s.extract 2 s.size).size)
where
  firstC (p q : ByteArray) : S45 × Bool × ByteArray :=
    if q.size < 2 then (z45, false, q) else
    if (q.extract 2 q.size).size < (q.get! 0).toNat * 256 + (q.get! 1).toNat then (⟨false, p, ⟨#[]⟩⟩, false, q.extract 2 q.size) else
    (⟨false, p, (q.extract 2 q.size).extract 0 ((q.get! 0).toNat * 256 + (q.get! 1).toNat)⟩, true, (q.extract 2 q.size).extract ((q.get! 0).toNat * 256 + (q.get! 1).toNat) (q.extract 2 q.size).size)
theorem get_0 (x y : UInt8) (h : 0 < (⟨#[x, y]⟩ : ByteArray).size) : (⟨#[x, y]⟩ : ByteArray)[0]'h = x := rfl
theorem get_1 (x y : UInt8) (h : 1 < (⟨#[x, y]⟩ : ByteArray).size) : (⟨#[x, y]⟩ : ByteArray)[1]'h = y := rfl
theorem wrap_u8 (y : UInt8) : wrap64 (y.toNat : Int) = (y.toNat : Int) := IntWalk.wrap64_in _ (by have := y.toNat_lt; omega)
attribute [local go_sem] get_0 get_1 wrap_u8
theorem res_first {tmps : Array Value} {W : World} {g : Nat} {cs : Array Value} (ht : tmps.getD 2 undef = .pointer (some ⟨g, 0, none⟩)) (hg : W.heap[g]? = some (.cells cs 45 (0, 0))) (hc : cs.size = 3) :
    (results Tryd.f62 tmps).run Tryd.prog W = .ok (.tuple #[.agg cs, tmps.getD 3 undef]) W := by
  rw [results_cell_tmp (fn := Tryd.f62) (p := 2) (u := 3) (ty := 45) rfl, ht]
  have hi : (Tryd.prog.info? 45).map (·.size) = some 3 := by kernel_rfl
  simp [asAddr, run_loadVar_row W g 45 45 cs (0, 0) _ hg Tryd.underlying45 rfl (by rw [hi, hc]), Result.andThen]
theorem cut2 (b : Nat) (s : ByteArray) (w : World) (hb : w.heap[b]? = some (.cells #[.string s] 9 (0, 0))) (h : 2 ≤ s.size) :
    Calls Tryd.prog 80 #[.pointer (some ⟨b, 0, none⟩), .int .i64 2] w fun e w' => e = .returned (.tuple #[.string ⟨#[s.get! 0, s.get! 1]⟩, .bool true]) ∧ w' = w.setCell ⟨b, 0, none⟩ (.string (s.extract 2 s.size)) := by
  rw [← two_bytes s h]
  exact cut_long b s 2 w hb h
def Cut2 (b : Nat) (s : ByteArray) (x y : UInt8) (r : ByteArray) : Prop := ∀ W : World, W.heap[b]? = some (.cells #[.string s] 9 (0, 0)) → Calls Tryd.prog 80 #[.pointer (some ⟨b, 0, none⟩), .int .i64 2] W fun e w' => e = .returned (.tuple #[.string ⟨#[x, y]⟩, .bool true]) ∧ w' = W.setCell ⟨b, 0, none⟩ (.string r)
def Good (o : S45) (is : Bool) (b : Nat) (s r : ByteArray) (w : World) (e : Ending) (w' : World) : Prop := e = .returned (.tuple #[.agg #[.bool o.f0, .string o.f1, .string o.f2], .bool is]) ∧ Mv b s r w w'
set_option maxHeartbeats 2000000 in
set_option maxRecDepth 100000 in
theorem first_a (b : Nat) (s : ByteArray) (w : World) (hb : w.heap[b]? = some (.cells #[.string s] 9 (0, 0))) (h : s.size < 2) :
    Calls Tryd.prog 62 #[.pointer (some ⟨b, 0, none⟩)] w (Good z45 false b s s w) := by
  have hu := Tryd.underlying45
  have HM := Aside0.mk (Mv.refl hb)
  have hlt := Aside0.mk (Array.getElem?_eq_some_iff.1 hb).1
  have H := Aside0.mk h
  clear hb h
  go_enter Tryd.func62, Tryd.ntmps62
  go_wp2_with (first
    | (refine box_lay 2 rfl rfl 45 rfl #[.bool false, .string ⟨#[]⟩, .string ⟨#[]⟩] (by kernel_rfl) ?_; intro gr HG w1 HK HW; have HM1 := Aside0.mk (HM.out.step hlt.out HW.out (Nat.le_refl _)))
    | (go_at_call 80; refine (cut_short b s 2 _ HM1.out.1 H.out).mono ?_; rintro e w2 ⟨rfl, rfl⟩)
    | (refine box_put rfl rfl 45 _ _ rfl gr _ #[.bool false, .string ⟨#[]⟩, .string ⟨#[]⟩] rfl rfl HK.out rfl rfl (by kernel_rfl) ?_; intro w3 HK3 HW3 HO3 HS3; have HM3 := Aside0.mk (HM1.out.step hlt.out HW3.out (Nat.le_of_eq HG.out.symm))))
  refine bodyPost_ret (res_first rfl HK3.out rfl) rfl ?_
  exact ⟨rfl, HM3.out⟩
set_option maxHeartbeats 2000000 in
set_option maxRecDepth 100000 in
theorem first_b (b : Nat) (s r : ByteArray) (x y : UInt8) (w : World) (hb : w.heap[b]? = some (.cells #[.string s] 9 (0, 0))) (hc : Cut2 b s x y r) (hx : 1 < x.toNat) :
    Calls Tryd.prog 62 #[.pointer (some ⟨b, 0, none⟩)] w (Good z45 false b s r w) := by
  have hu := Tryd.underlying45
  have HM := Aside0.mk (Mv.refl hb)
  have hlt := Aside0.mk (Array.getElem?_eq_some_iff.1 hb).1
  have HC := Aside0.mk hc
  have d1 : decide (1 < x.toNat) = true := decide_eq_true hx
  have d2 : decide ((1 : Int) < (x.toNat : Int)) = true := decide_eq_true (by omega)
  clear hb hc hx
  go_enter Tryd.func62, Tryd.ntmps62
  go_upto_region 3 with (first
    | (refine box_lay 2 rfl rfl 45 rfl #[.bool false, .string ⟨#[]⟩, .string ⟨#[]⟩] (by kernel_rfl) ?_; intro gr HG w1 HK HW; have HM1 := Aside0.mk (HM.out.step hlt.out HW.out (Nat.le_refl _)))
    | (go_at_call 80; refine (HC.out _ HM1.out.1).mono ?_; rintro e w2 ⟨rfl, hw2⟩; have HM2 := Aside0.mk (HM1.out.cell r); have HK2 := Aside0.mk ((Below.heap_setCell w1 ⟨b, 0, none⟩ (.string r) gr (by have := HG.out; have := hlt.out; dsimp only; omega)).trans HK.out); rw [← hw2] at HM2 HK2; clear hw2))
  go_wp2_with (refine box_put rfl rfl 45 _ _ rfl gr _ #[.bool false, .string ⟨#[]⟩, .string ⟨#[]⟩] rfl rfl HK2.out rfl rfl (by kernel_rfl) ?_; intro w3 HK3 HW3 HO3 HS3; have HM3 := Aside0.mk (HM2.out.step hlt.out HW3.out (Nat.le_of_eq HG.out.symm)))
  refine bodyPost_ret (res_first rfl HK3.out rfl) rfl ?_
  exact ⟨rfl, HM3.out⟩
set_option maxHeartbeats 2000000 in
set_option maxRecDepth 100000 in
theorem first_c (b : Nat) (s r : ByteArray) (x y : UInt8) (gb : Bool) (w : World) (hb : w.heap[b]? = some (.cells #[.string s] 9 (0, 0))) (hc : Cut2 b s x y r) (hx : ¬ 1 < x.toNat) (hg : ((x.toNat : Int) == 1) = gb) (hy : r.size < y.toNat) :
    Calls Tryd.prog 62 #[.pointer (some ⟨b, 0, none⟩)] w (Good ⟨gb, ⟨#[]⟩, ⟨#[]⟩⟩ false b s r w) := by
  have hu := Tryd.underlying45
  have HM := Aside0.mk (Mv.refl hb)
  have hlt := Aside0.mk (Array.getElem?_eq_some_iff.1 hb).1
  have HC := Aside0.mk hc
  have HY := Aside0.mk hy
  have d1 : decide (1 < x.toNat) = false := decide_eq_false hx
  have d2 : decide ((1 : Int) < (x.toNat : Int)) = false := decide_eq_false (by omega)
  clear hb hc hx hy
  go_enter Tryd.func62, Tryd.ntmps62
  go_upto_region 5 with (first
    | (refine box_lay 2 rfl rfl 45 rfl #[.bool false, .string ⟨#[]⟩, .string ⟨#[]⟩] (by kernel_rfl) ?_; intro gr HG w1 HK HW; have HM1 := Aside0.mk (HM.out.step hlt.out HW.out (Nat.le_refl _)))
    | (go_at_call 80; refine (HC.out _ HM1.out.1).mono ?_; rintro e w2 ⟨rfl, hw2⟩; have HM2 := Aside0.mk (HM1.out.cell r); have HK2 := Aside0.mk ((Below.heap_setCell w1 ⟨b, 0, none⟩ (.string r) gr (by have := HG.out; have := hlt.out; dsimp only; omega)).trans HK.out); rw [← hw2] at HM2 HK2; clear hw2)
    | (refine box_lay 6 rfl rfl 45 rfl #[.bool false, .string ⟨#[]⟩, .string ⟨#[]⟩] (by kernel_rfl) ?_; intro go HGo w3 HKo HW3; have HM3 := Aside0.mk (HM2.out.step hlt.out HW3.out HM2.out.size); have HK3 := Aside0.mk (blk_below HK2.out HW3.out); have HLo := Aside0.mk (show w.heap.size < go by have := HGo.out; have := HG.out; have := (Array.getElem?_eq_some_iff.1 HK2.out).1; omega))
    | (refine box_put rfl rfl 45 _ _ rfl go _ #[.bool gb, .string ⟨#[]⟩, .string ⟨#[]⟩] rfl rfl HKo.out rfl rfl (by kernel_rfl) ?_; intro w4 HKo4 HW4 HO4 HS4; have HM4 := Aside0.mk (HM3.out.step hlt.out HW4.out (Nat.le_of_lt HLo.out)); have HK4 := Aside0.mk ((HO4.out gr (by have := HLo.out; have := HG.out; omega)).trans HK3.out)))
  go_upto_region 6 with (go_at_call 80; refine (cut_short b r y.toNat _ HM4.out.1 HY.out).mono ?_; rintro e w5 ⟨rfl, hw5⟩; have HM5 := HM4; have HKo5 := HKo4; have HK5 := HK4; rw [← hw5] at HM5 HKo5 HK5; clear hw5; have c0 : w5.cell? ⟨go, 0, none⟩ = some (.bool gb) := (blk_cell HKo5.out 0).trans rfl; have c1 : w5.cell? ⟨go, 1, none⟩ = some (.string ⟨#[]⟩) := (blk_cell HKo5.out 1).trans rfl; have c2 : w5.cell? ⟨go, 2, none⟩ = some (.string ⟨#[]⟩) := (blk_cell HKo5.out 2).trans rfl; have f1 := blk_frozen HKo5.out 1)
  have HM6 := Aside0.mk (HM5.out.step hlt.out ((Below.refl go w5).setCell (p := ⟨go, 1, none⟩) (Nat.le_refl _) (.string ⟨#[]⟩)) (Nat.le_of_lt HLo.out))
  have HK6 := Aside0.mk ((Below.heap_setCell w5 ⟨go, 1, none⟩ (.string ⟨#[]⟩) gr (by have := HLo.out; have := HG.out; dsimp only; omega)).trans HK5.out)
  have HKo6 := Aside0.mk (blk_put (cs' := #[.bool gb, .string ⟨#[]⟩, .string ⟨#[]⟩]) HKo5.out 1 (.string ⟨#[]⟩) rfl)
  generalize hw6 : w5.setCell ⟨go, 1, none⟩ (.string ⟨#[]⟩) = w6 at *
  clear hw6 c0 c1 c2 f1
  have c0 : w6.cell? ⟨go, 0, none⟩ = some (.bool gb) := (blk_cell HKo6.out 0).trans rfl
  have c1 : w6.cell? ⟨go, 1, none⟩ = some (.string ⟨#[]⟩) := (blk_cell HKo6.out 1).trans rfl
  have c2 : w6.cell? ⟨go, 2, none⟩ = some (.string ⟨#[]⟩) := (blk_cell HKo6.out 2).trans rfl
  go_wp2_with (refine box_put rfl rfl 45 _ _ rfl gr _ #[.bool gb, .string ⟨#[]⟩, .string ⟨#[]⟩] rfl rfl HK6.out rfl rfl (by kernel_rfl) ?_; intro w7 HK7 HW7 HO7 HS7; have HM7 := Aside0.mk (HM6.out.step hlt.out HW7.out (Nat.le_of_eq HG.out.symm)))
  refine bodyPost_ret (res_first rfl HK7.out rfl) rfl ?_
  exact ⟨rfl, HM7.out⟩
set_option maxHeartbeats 2000000 in
set_option maxRecDepth 100000 in
theorem first_d (b : Nat) (s r : ByteArray) (x y : UInt8) (w : World) (hb : w.heap[b]? = some (.cells #[.string s] 9 (0, 0))) (hc : Cut2 b s x y r) (hx : ¬ 1 < x.toNat) (hg : ((x.toNat : Int) == 1) = true) (hy : y.toNat ≤ r.size) :
    Calls Tryd.prog 62 #[.pointer (some ⟨b, 0, none⟩)] w (Good ⟨true, r.extract 0 y.toNat, ⟨#[]⟩⟩ true b s (r.extract y.toNat r.size) w) := by
  have hu := Tryd.underlying45
  have HM := Aside0.mk (Mv.refl hb)
  have hlt := Aside0.mk (Array.getElem?_eq_some_iff.1 hb).1
  have HC := Aside0.mk hc
  have HY := Aside0.mk hy
  have d1 : decide (1 < x.toNat) = false := decide_eq_false hx
  have d2 : decide ((1 : Int) < (x.toNat : Int)) = false := decide_eq_false (by omega)
  clear hb hc hx hy
  go_enter Tryd.func62, Tryd.ntmps62
  go_upto_region 5 with (first
    | (refine box_lay 2 rfl rfl 45 rfl #[.bool false, .string ⟨#[]⟩, .string ⟨#[]⟩] (by kernel_rfl) ?_; intro gr HG w1 HK HW; have HM1 := Aside0.mk (HM.out.step hlt.out HW.out (Nat.le_refl _)))
    | (go_at_call 80; refine (HC.out _ HM1.out.1).mono ?_; rintro e w2 ⟨rfl, hw2⟩; have HM2 := Aside0.mk (HM1.out.cell r); have HK2 := Aside0.mk ((Below.heap_setCell w1 ⟨b, 0, none⟩ (.string r) gr (by have := HG.out; have := hlt.out; dsimp only; omega)).trans HK.out); rw [← hw2] at HM2 HK2; clear hw2)
    | (refine box_lay 6 rfl rfl 45 rfl #[.bool false, .string ⟨#[]⟩, .string ⟨#[]⟩] (by kernel_rfl) ?_; intro go HGo w3 HKo HW3; have HM3 := Aside0.mk (HM2.out.step hlt.out HW3.out HM2.out.size); have HK3 := Aside0.mk (blk_below HK2.out HW3.out); have HLo := Aside0.mk (show w.heap.size < go by have := HGo.out; have := HG.out; have := (Array.getElem?_eq_some_iff.1 HK2.out).1; omega))
    | (refine box_put rfl rfl 45 _ _ rfl go _ #[.bool true, .string ⟨#[]⟩, .string ⟨#[]⟩] rfl rfl HKo.out rfl rfl (by kernel_rfl) ?_; intro w4 HKo4 HW4 HO4 HS4; have HM4 := Aside0.mk (HM3.out.step hlt.out HW4.out (Nat.le_of_lt HLo.out)); have HK4 := Aside0.mk ((HO4.out gr (by have := HLo.out; have := HG.out; omega)).trans HK3.out)))
  go_upto_region 6 with (go_at_call 80; refine (cut_long b r y.toNat _ HM4.out.1 HY.out).mono ?_; rintro e w5 ⟨rfl, hw5⟩; have HM5 := Aside0.mk (HM4.out.cell (r.extract y.toNat r.size)); have HKo5 := Aside0.mk ((Below.heap_setCell w4 ⟨b, 0, none⟩ (.string (r.extract y.toNat r.size)) go (by have := HLo.out; have := hlt.out; dsimp only; omega)).trans HKo4.out); have HK5 := Aside0.mk ((Below.heap_setCell w4 ⟨b, 0, none⟩ (.string (r.extract y.toNat r.size)) gr (by have := HG.out; have := hlt.out; dsimp only; omega)).trans HK4.out); rw [← hw5] at HM5 HKo5 HK5; clear hw5; have c0 : w5.cell? ⟨go, 0, none⟩ = some (.bool true) := (blk_cell HKo5.out 0).trans rfl; have c1 : w5.cell? ⟨go, 1, none⟩ = some (.string ⟨#[]⟩) := (blk_cell HKo5.out 1).trans rfl; have c2 : w5.cell? ⟨go, 2, none⟩ = some (.string ⟨#[]⟩) := (blk_cell HKo5.out 2).trans rfl; have f1 := blk_frozen HKo5.out 1)
  have HM6 := Aside0.mk (HM5.out.step hlt.out ((Below.refl go w5).setCell (p := ⟨go, 1, none⟩) (Nat.le_refl _) (.string (r.extract 0 y.toNat))) (Nat.le_of_lt HLo.out))
  have HK6 := Aside0.mk ((Below.heap_setCell w5 ⟨go, 1, none⟩ (.string (r.extract 0 y.toNat)) gr (by have := HLo.out; have := HG.out; dsimp only; omega)).trans HK5.out)
  have HKo6 := Aside0.mk (blk_put (cs' := #[.bool true, .string (r.extract 0 y.toNat), .string ⟨#[]⟩]) HKo5.out 1 (.string (r.extract 0 y.toNat)) rfl)
  generalize hw6 : w5.setCell ⟨go, 1, none⟩ (.string (r.extract 0 y.toNat)) = w6 at *
  clear hw6 c0 c1 c2 f1
  have c0 : w6.cell? ⟨go, 0, none⟩ = some (.bool true) := (blk_cell HKo6.out 0).trans rfl
  have c1 : w6.cell? ⟨go, 1, none⟩ = some (.string (r.extract 0 y.toNat)) := (blk_cell HKo6.out 1).trans rfl
  have c2 : w6.cell? ⟨go, 2, none⟩ = some (.string ⟨#[]⟩) := (blk_cell HKo6.out 2).trans rfl
  go_wp2_with (refine box_put rfl rfl 45 _ _ rfl gr _ #[.bool true, .string (r.extract 0 y.toNat), .string ⟨#[]⟩] rfl rfl HK6.out rfl rfl (by kernel_rfl) ?_; intro w7 HK7 HW7 HO7 HS7; have HM7 := Aside0.mk (HM6.out.step hlt.out HW7.out (Nat.le_of_eq HG.out.symm)))
  refine bodyPost_ret (res_first rfl HK7.out rfl) rfl ?_
  exact ⟨rfl, HM7.out⟩
set_option maxHeartbeats 2000000 in
set_option maxRecDepth 100000 in
theorem first_e (b : Nat) (s r : ByteArray) (x y : UInt8) (w : World) (hb : w.heap[b]? = some (.cells #[.string s] 9 (0, 0))) (hc : Cut2 b s x y r) (hx : ¬ 1 < x.toNat) (hg : ((x.toNat : Int) == 1) = false) (hy : y.toNat ≤ r.size) (hq : (r.extract y.toNat r.size).size < 2) :
    Calls Tryd.prog 62 #[.pointer (some ⟨b, 0, none⟩)] w (Good z45 false b s (r.extract y.toNat r.size) w) := by
  have hu := Tryd.underlying45
  have HM := Aside0.mk (Mv.refl hb)
  have hlt := Aside0.mk (Array.getElem?_eq_some_iff.1 hb).1
  have HC := Aside0.mk hc
  have HY := Aside0.mk hy
  have d1 : decide (1 < x.toNat) = false := decide_eq_false hx
  have d2 : decide ((1 : Int) < (x.toNat : Int)) = false := decide_eq_false (by omega)
  have HQ := Aside0.mk hq
  clear hb hc hx hy hq
  go_enter Tryd.func62, Tryd.ntmps62
  go_upto_region 5 with (first
    | (refine box_lay 2 rfl rfl 45 rfl #[.bool false, .string ⟨#[]⟩, .string ⟨#[]⟩] (by kernel_rfl) ?_; intro gr HG w1 HK HW; have HM1 := Aside0.mk (HM.out.step hlt.out HW.out (Nat.le_refl _)))
    | (go_at_call 80; refine (HC.out _ HM1.out.1).mono ?_; rintro e w2 ⟨rfl, hw2⟩; have HM2 := Aside0.mk (HM1.out.cell r); have HK2 := Aside0.mk ((Below.heap_setCell w1 ⟨b, 0, none⟩ (.string r) gr (by have := HG.out; have := hlt.out; dsimp only; omega)).trans HK.out); rw [← hw2] at HM2 HK2; clear hw2)
    | (refine box_lay 6 rfl rfl 45 rfl #[.bool false, .string ⟨#[]⟩, .string ⟨#[]⟩] (by kernel_rfl) ?_; intro go HGo w3 HKo HW3; have HM3 := Aside0.mk (HM2.out.step hlt.out HW3.out HM2.out.size); have HK3 := Aside0.mk (blk_below HK2.out HW3.out); have HLo := Aside0.mk (show w.heap.size < go by have := HGo.out; have := HG.out; have := (Array.getElem?_eq_some_iff.1 HK2.out).1; omega))
    | (refine box_put rfl rfl 45 _ _ rfl go _ #[.bool false, .string ⟨#[]⟩, .string ⟨#[]⟩] rfl rfl HKo.out rfl rfl (by kernel_rfl) ?_; intro w4 HKo4 HW4 HO4 HS4; have HM4 := Aside0.mk (HM3.out.step hlt.out HW4.out (Nat.le_of_lt HLo.out)); have HK4 := Aside0.mk ((HO4.out gr (by have := HLo.out; have := HG.out; omega)).trans HK3.out)))
  go_upto_region 6 with (go_at_call 80; refine (cut_long b r y.toNat _ HM4.out.1 HY.out).mono ?_; rintro e w5 ⟨rfl, hw5⟩; have HM5 := Aside0.mk (HM4.out.cell (r.extract y.toNat r.size)); have HKo5 := Aside0.mk ((Below.heap_setCell w4 ⟨b, 0, none⟩ (.string (r.extract y.toNat r.size)) go (by have := HLo.out; have := hlt.out; dsimp only; omega)).trans HKo4.out); have HK5 := Aside0.mk ((Below.heap_setCell w4 ⟨b, 0, none⟩ (.string (r.extract y.toNat r.size)) gr (by have := HG.out; have := hlt.out; dsimp only; omega)).trans HK4.out); rw [← hw5] at HM5 HKo5 HK5; clear hw5; have c0 : w5.cell? ⟨go, 0, none⟩ = some (.bool false) := (blk_cell HKo5.out 0).trans rfl; have c1 : w5.cell? ⟨go, 1, none⟩ = some (.string ⟨#[]⟩) := (blk_cell HKo5.out 1).trans rfl; have c2 : w5.cell? ⟨go, 2, none⟩ = some (.string ⟨#[]⟩) := (blk_cell HKo5.out 2).trans rfl; have f1 := blk_frozen HKo5.out 1)
  have HM6 := Aside0.mk (HM5.out.step hlt.out ((Below.refl go w5).setCell (p := ⟨go, 1, none⟩) (Nat.le_refl _) (.string (r.extract 0 y.toNat))) (Nat.le_of_lt HLo.out))
  have HK6 := Aside0.mk ((Below.heap_setCell w5 ⟨go, 1, none⟩ (.string (r.extract 0 y.toNat)) gr (by have := HLo.out; have := HG.out; dsimp only; omega)).trans HK5.out)
  have HKo6 := Aside0.mk (blk_put (cs' := #[.bool false, .string (r.extract 0 y.toNat), .string ⟨#[]⟩]) HKo5.out 1 (.string (r.extract 0 y.toNat)) rfl)
  generalize hw6 : w5.setCell ⟨go, 1, none⟩ (.string (r.extract 0 y.toNat)) = w6 at *
  clear hw6 c0 c1 c2 f1
  have c0 : w6.cell? ⟨go, 0, none⟩ = some (.bool false) := (blk_cell HKo6.out 0).trans rfl
  have c1 : w6.cell? ⟨go, 1, none⟩ = some (.string (r.extract 0 y.toNat)) := (blk_cell HKo6.out 1).trans rfl
  have c2 : w6.cell? ⟨go, 2, none⟩ = some (.string ⟨#[]⟩) := (blk_cell HKo6.out 2).trans rfl
  go_wp2_with (first
    | (go_at_call 80; refine (cut_short b _ 2 _ HM6.out.1 HQ.out).mono ?_; rintro e w8 ⟨rfl, hw8⟩; have HM8 := HM6; have HK8 := HK6; rw [← hw8] at HM8 HK8; clear hw8)
    | (refine box_put rfl rfl 45 _ _ rfl gr _ #[.bool false, .string ⟨#[]⟩, .string ⟨#[]⟩] rfl rfl HK8.out rfl rfl (by kernel_rfl) ?_; intro w7 HK7 HW7 HO7 HS7; have HM7 := Aside0.mk (HM8.out.step hlt.out HW7.out (Nat.le_of_eq HG.out.symm))))
  refine bodyPost_ret (res_first rfl HK7.out rfl) rfl ?_
  exact ⟨rfl, HM7.out⟩
set_option maxHeartbeats 2000000 in
set_option maxRecDepth 100000 in
theorem first_f (b : Nat) (s r : ByteArray) (x y u v : UInt8) (z : ByteArray) (w : World) (hb : w.heap[b]? = some (.cells #[.string s] 9 (0, 0))) (hc : Cut2 b s x y r) (hx : ¬ 1 < x.toNat) (hg : ((x.toNat : Int) == 1) = false) (hy : y.toNat ≤ r.size) (hq : Cut2 b (r.extract y.toNat r.size) u v z) (hz : z.size < u.toNat * 256 + v.toNat) :
    Calls Tryd.prog 62 #[.pointer (some ⟨b, 0, none⟩)] w (Good ⟨false, r.extract 0 y.toNat, ⟨#[]⟩⟩ false b s z w) := by
  have hu := Tryd.underlying45
  have HM := Aside0.mk (Mv.refl hb)
  have hlt := Aside0.mk (Array.getElem?_eq_some_iff.1 hb).1
  have HC := Aside0.mk hc
  have HY := Aside0.mk hy
  have d1 : decide (1 < x.toNat) = false := decide_eq_false hx
  have d2 : decide ((1 : Int) < (x.toNat : Int)) = false := decide_eq_false (by omega)
  have HQ := Aside0.mk hq
  have HZ := Aside0.mk hz
  clear hb hc hx hy hq hz
  go_enter Tryd.func62, Tryd.ntmps62
  go_upto_region 5 with (first
    | (refine box_lay 2 rfl rfl 45 rfl #[.bool false, .string ⟨#[]⟩, .string ⟨#[]⟩] (by kernel_rfl) ?_; intro gr HG w1 HK HW; have HM1 := Aside0.mk (HM.out.step hlt.out HW.out (Nat.le_refl _)))
    | (go_at_call 80; refine (HC.out _ HM1.out.1).mono ?_; rintro e w2 ⟨rfl, hw2⟩; have HM2 := Aside0.mk (HM1.out.cell r); have HK2 := Aside0.mk ((Below.heap_setCell w1 ⟨b, 0, none⟩ (.string r) gr (by have := HG.out; have := hlt.out; dsimp only; omega)).trans HK.out); rw [← hw2] at HM2 HK2; clear hw2)
    | (refine box_lay 6 rfl rfl 45 rfl #[.bool false, .string ⟨#[]⟩, .string ⟨#[]⟩] (by kernel_rfl) ?_; intro go HGo w3 HKo HW3; have HM3 := Aside0.mk (HM2.out.step hlt.out HW3.out HM2.out.size); have HK3 := Aside0.mk (blk_below HK2.out HW3.out); have HLo := Aside0.mk (show w.heap.size < go by have := HGo.out; have := HG.out; have := (Array.getElem?_eq_some_iff.1 HK2.out).1; omega))
    | (refine box_put rfl rfl 45 _ _ rfl go _ #[.bool false, .string ⟨#[]⟩, .string ⟨#[]⟩] rfl rfl HKo.out rfl rfl (by kernel_rfl) ?_; intro w4 HKo4 HW4 HO4 HS4; have HM4 := Aside0.mk (HM3.out.step hlt.out HW4.out (Nat.le_of_lt HLo.out)); have HK4 := Aside0.mk ((HO4.out gr (by have := HLo.out; have := HG.out; omega)).trans HK3.out)))
  go_upto_region 6 with (go_at_call 80; refine (cut_long b r y.toNat _ HM4.out.1 HY.out).mono ?_; rintro e w5 ⟨rfl, hw5⟩; have HM5 := Aside0.mk (HM4.out.cell (r.extract y.toNat r.size)); have HKo5 := Aside0.mk ((Below.heap_setCell w4 ⟨b, 0, none⟩ (.string (r.extract y.toNat r.size)) go (by have := HLo.out; have := hlt.out; dsimp only; omega)).trans HKo4.out); have HK5 := Aside0.mk ((Below.heap_setCell w4 ⟨b, 0, none⟩ (.string (r.extract y.toNat r.size)) gr (by have := HG.out; have := hlt.out; dsimp only; omega)).trans HK4.out); rw [← hw5] at HM5 HKo5 HK5; clear hw5; have c0 : w5.cell? ⟨go, 0, none⟩ = some (.bool false) := (blk_cell HKo5.out 0).trans rfl; have c1 : w5.cell? ⟨go, 1, none⟩ = some (.string ⟨#[]⟩) := (blk_cell HKo5.out 1).trans rfl; have c2 : w5.cell? ⟨go, 2, none⟩ = some (.string ⟨#[]⟩) := (blk_cell HKo5.out 2).trans rfl; have f1 := blk_frozen HKo5.out 1)
  have HM6 := Aside0.mk (HM5.out.step hlt.out ((Below.refl go w5).setCell (p := ⟨go, 1, none⟩) (Nat.le_refl _) (.string (r.extract 0 y.toNat))) (Nat.le_of_lt HLo.out))
  have HK6 := Aside0.mk ((Below.heap_setCell w5 ⟨go, 1, none⟩ (.string (r.extract 0 y.toNat)) gr (by have := HLo.out; have := HG.out; dsimp only; omega)).trans HK5.out)
  have HKo6 := Aside0.mk (blk_put (cs' := #[.bool false, .string (r.extract 0 y.toNat), .string ⟨#[]⟩]) HKo5.out 1 (.string (r.extract 0 y.toNat)) rfl)
  generalize hw6 : w5.setCell ⟨go, 1, none⟩ (.string (r.extract 0 y.toNat)) = w6 at *
  clear hw6 c0 c1 c2 f1
  have c0 : w6.cell? ⟨go, 0, none⟩ = some (.bool false) := (blk_cell HKo6.out 0).trans rfl
  have c1 : w6.cell? ⟨go, 1, none⟩ = some (.string (r.extract 0 y.toNat)) := (blk_cell HKo6.out 1).trans rfl
  have c2 : w6.cell? ⟨go, 2, none⟩ = some (.string ⟨#[]⟩) := (blk_cell HKo6.out 2).trans rfl
  go_upto_region 11 with (go_at_call 80; refine (HQ.out _ HM6.out.1).mono ?_; rintro e w8 ⟨rfl, hw8⟩; have HM8 := Aside0.mk (HM6.out.cell z); have HKo8 := Aside0.mk ((Below.heap_setCell w6 ⟨b, 0, none⟩ (.string z) go (by have := HLo.out; have := hlt.out; dsimp only; omega)).trans HKo6.out); have HK8 := Aside0.mk ((Below.heap_setCell w6 ⟨b, 0, none⟩ (.string z) gr (by have := HG.out; have := hlt.out; dsimp only; omega)).trans HK6.out); rw [← hw8] at HM8 HKo8 HK8; clear hw8)
  have c3 : w8.cell? ⟨go, 2, none⟩ = some (.string ⟨#[]⟩) := (blk_cell HKo8.out 2).trans rfl
  have f3 := blk_frozen HKo8.out 2
  have CZ := Aside0.mk (fun (W : World) (h : W.heap[b]? = some (.cells #[.string z] 9 (0, 0))) => cut_short b z (u.toNat * 256 + v.toNat) W h HZ.out)
  simp only [← num16] at CZ
  go_region_with (go_at_call 80; refine (CZ.out _ ?_).mono ?_; exact HM8.out.1; rintro e w9 ⟨rfl, rfl⟩)
  all_goals (
    (try simp only [Act.put, List.setIfInBounds_toArray, List.set_cons_zero, List.set_cons_succ])
    have HM9 := Aside0.mk (HM8.out.step hlt.out (((Below.refl go w8).setCell (p := ⟨go, 2, none⟩) (Nat.le_refl _) (.string ⟨#[]⟩)).drew) (Nat.le_of_lt HLo.out))
    have HK9 := Aside0.mk (blk_drew ((Below.heap_setCell (w8) ⟨go, 2, none⟩ (.string ⟨#[]⟩) gr (by have := HLo.out; have := HG.out; dsimp only; omega)).trans HK8.out))
    have HKo9 := Aside0.mk (blk_drew (blk_put (cs' := #[.bool false, .string (r.extract 0 y.toNat), .string ⟨#[]⟩]) HKo8.out 2 (.string ⟨#[]⟩) rfl))
    generalize hw9 : ((w8).setCell ⟨go, 2, none⟩ (.string ⟨#[]⟩)).drew = w9 at *
    clear hw9
    have e0 : w9.cell? ⟨go, 0, none⟩ = some (.bool false) := (blk_cell HKo9.out 0).trans rfl
    have e1 : w9.cell? ⟨go, 1, none⟩ = some (.string (r.extract 0 y.toNat)) := (blk_cell HKo9.out 1).trans rfl
    have e2 : w9.cell? ⟨go, 2, none⟩ = some (.string ⟨#[]⟩) := (blk_cell HKo9.out 2).trans rfl
    go_wp2_with (refine box_put rfl rfl 45 _ _ rfl gr _ #[.bool false, .string (r.extract 0 y.toNat), .string ⟨#[]⟩] rfl rfl HK9.out rfl rfl (by kernel_rfl) ?_; intro w7 HK7 HW7 HO7 HS7; have HM7 := Aside0.mk (HM9.out.step hlt.out HW7.out (Nat.le_of_eq HG.out.symm)))
    refine bodyPost_ret (res_first rfl HK7.out rfl) rfl ?_
    exact ⟨rfl, HM7.out⟩)
set_option maxHeartbeats 2000000 in
set_option maxRecDepth 100000 in
theorem first_g (b : Nat) (s r : ByteArray) (x y u v : UInt8) (z : ByteArray) (w : World) (hb : w.heap[b]? = some (.cells #[.string s] 9 (0, 0))) (hc : Cut2 b s x y r) (hx : ¬ 1 < x.toNat) (hg : ((x.toNat : Int) == 1) = false) (hy : y.toNat ≤ r.size) (hq : Cut2 b (r.extract y.toNat r.size) u v z) (m : Nat) (hm : u.toNat * 256 + v.toNat = m) (hz : m ≤ z.size) :
    Calls Tryd.prog 62 #[.pointer (some ⟨b, 0, none⟩)] w (Good ⟨false, r.extract 0 y.toNat, z.extract 0 m⟩ true b s (z.extract m z.size) w) := by
  have hu := Tryd.underlying45
  have HM := Aside0.mk (Mv.refl hb)
  have hlt := Aside0.mk (Array.getElem?_eq_some_iff.1 hb).1
  have HC := Aside0.mk hc
  have HY := Aside0.mk hy
  have d1 : decide (1 < x.toNat) = false := decide_eq_false hx
  have d2 : decide ((1 : Int) < (x.toNat : Int)) = false := decide_eq_false (by omega)
  have HQ := Aside0.mk hq
  have HZ := Aside0.mk hz
  clear hb hc hx hy hq hz
  go_enter Tryd.func62, Tryd.ntmps62
  go_upto_region 5 with (first
    | (refine box_lay 2 rfl rfl 45 rfl #[.bool false, .string ⟨#[]⟩, .string ⟨#[]⟩] (by kernel_rfl) ?_; intro gr HG w1 HK HW; have HM1 := Aside0.mk (HM.out.step hlt.out HW.out (Nat.le_refl _)))
    | (go_at_call 80; refine (HC.out _ HM1.out.1).mono ?_; rintro e w2 ⟨rfl, hw2⟩; have HM2 := Aside0.mk (HM1.out.cell r); have HK2 := Aside0.mk ((Below.heap_setCell w1 ⟨b, 0, none⟩ (.string r) gr (by have := HG.out; have := hlt.out; dsimp only; omega)).trans HK.out); rw [← hw2] at HM2 HK2; clear hw2)
    | (refine box_lay 6 rfl rfl 45 rfl #[.bool false, .string ⟨#[]⟩, .string ⟨#[]⟩] (by kernel_rfl) ?_; intro go HGo w3 HKo HW3; have HM3 := Aside0.mk (HM2.out.step hlt.out HW3.out HM2.out.size); have HK3 := Aside0.mk (blk_below HK2.out HW3.out); have HLo := Aside0.mk (show w.heap.size < go by have := HGo.out; have := HG.out; have := (Array.getElem?_eq_some_iff.1 HK2.out).1; omega))
    | (refine box_put rfl rfl 45 _ _ rfl go _ #[.bool false, .string ⟨#[]⟩, .string ⟨#[]⟩] rfl rfl HKo.out rfl rfl (by kernel_rfl) ?_; intro w4 HKo4 HW4 HO4 HS4; have HM4 := Aside0.mk (HM3.out.step hlt.out HW4.out (Nat.le_of_lt HLo.out)); have HK4 := Aside0.mk ((HO4.out gr (by have := HLo.out; have := HG.out; omega)).trans HK3.out)))
  go_upto_region 6 with (go_at_call 80; refine (cut_long b r y.toNat _ HM4.out.1 HY.out).mono ?_; rintro e w5 ⟨rfl, hw5⟩; have HM5 := Aside0.mk (HM4.out.cell (r.extract y.toNat r.size)); have HKo5 := Aside0.mk ((Below.heap_setCell w4 ⟨b, 0, none⟩ (.string (r.extract y.toNat r.size)) go (by have := HLo.out; have := hlt.out; dsimp only; omega)).trans HKo4.out); have HK5 := Aside0.mk ((Below.heap_setCell w4 ⟨b, 0, none⟩ (.string (r.extract y.toNat r.size)) gr (by have := HG.out; have := hlt.out; dsimp only; omega)).trans HK4.out); rw [← hw5] at HM5 HKo5 HK5; clear hw5; have c0 : w5.cell? ⟨go, 0, none⟩ = some (.bool false) := (blk_cell HKo5.out 0).trans rfl; have c1 : w5.cell? ⟨go, 1, none⟩ = some (.string ⟨#[]⟩) := (blk_cell HKo5.out 1).trans rfl; have c2 : w5.cell? ⟨go, 2, none⟩ = some (.string ⟨#[]⟩) := (blk_cell HKo5.out 2).trans rfl; have f1 := blk_frozen HKo5.out 1)
  have HM6 := Aside0.mk (HM5.out.step hlt.out ((Below.refl go w5).setCell (p := ⟨go, 1, none⟩) (Nat.le_refl _) (.string (r.extract 0 y.toNat))) (Nat.le_of_lt HLo.out))
  have HK6 := Aside0.mk ((Below.heap_setCell w5 ⟨go, 1, none⟩ (.string (r.extract 0 y.toNat)) gr (by have := HLo.out; have := HG.out; dsimp only; omega)).trans HK5.out)
  have HKo6 := Aside0.mk (blk_put (cs' := #[.bool false, .string (r.extract 0 y.toNat), .string ⟨#[]⟩]) HKo5.out 1 (.string (r.extract 0 y.toNat)) rfl)
  generalize hw6 : w5.setCell ⟨go, 1, none⟩ (.string (r.extract 0 y.toNat)) = w6 at *
  clear hw6 c0 c1 c2 f1
  have c0 : w6.cell? ⟨go, 0, none⟩ = some (.bool false) := (blk_cell HKo6.out 0).trans rfl
  have c1 : w6.cell? ⟨go, 1, none⟩ = some (.string (r.extract 0 y.toNat)) := (blk_cell HKo6.out 1).trans rfl
  have c2 : w6.cell? ⟨go, 2, none⟩ = some (.string ⟨#[]⟩) := (blk_cell HKo6.out 2).trans rfl
  go_upto_region 11 with (go_at_call 80; refine (HQ.out _ HM6.out.1).mono ?_; rintro e w8 ⟨rfl, hw8⟩; have HM8 := Aside0.mk (HM6.out.cell z); have HKo8 := Aside0.mk ((Below.heap_setCell w6 ⟨b, 0, none⟩ (.string z) go (by have := HLo.out; have := hlt.out; dsimp only; omega)).trans HKo6.out); have HK8 := Aside0.mk ((Below.heap_setCell w6 ⟨b, 0, none⟩ (.string z) gr (by have := HG.out; have := hlt.out; dsimp only; omega)).trans HK6.out); rw [← hw8] at HM8 HKo8 HK8; clear hw8)
  have c3 : w8.cell? ⟨go, 2, none⟩ = some (.string ⟨#[]⟩) := (blk_cell HKo8.out 2).trans rfl
  have f3 := blk_frozen HKo8.out 2
  have nm := num16 u v
  rw [hm] at nm
  have CZ := Aside0.mk (fun (W : World) (h : W.heap[b]? = some (.cells #[.string z] 9 (0, 0))) => cut_long b z m W h HZ.out)
  rw [← nm] at CZ
  have NBG := Aside0.mk (show go ≠ b by have := HLo.out; have := hlt.out; omega)
  have HM9 := Aside0.mk (HM8.out.cell (z.extract m z.size))
  have HKo9 := Aside0.mk ((Below.heap_setCell w8 ⟨b, 0, none⟩ (.string (z.extract m z.size)) go NBG.out).trans HKo8.out)
  have HK9 := Aside0.mk ((Below.heap_setCell w8 ⟨b, 0, none⟩ (.string (z.extract m z.size)) gr (by have := HG.out; have := hlt.out; dsimp only; omega)).trans HK8.out)
  have c4 : (w8.setCell ⟨b, 0, none⟩ (.string (z.extract m z.size))).cell? ⟨go, 2, none⟩ = some (.string ⟨#[]⟩) := (blk_cell HKo9.out 2).trans rfl
  have f4 := blk_frozen HKo9.out 2
  clear nm hm
  go_region_with (go_at_call 80; refine (CZ.out _ ?_).mono ?_; exact HM8.out.1; rintro e w9 ⟨rfl, rfl⟩)
  all_goals (
    (try simp only [Act.put, List.setIfInBounds_toArray, List.set_cons_zero, List.set_cons_succ])
    have HM10 := Aside0.mk (HM9.out.step hlt.out (((Below.refl go (w8.setCell ⟨b, 0, none⟩ (.string (z.extract m z.size)))).setCell (p := ⟨go, 2, none⟩) (Nat.le_refl _) (.string (z.extract 0 m))).drew) (Nat.le_of_lt HLo.out))
    have HK10 := Aside0.mk (blk_drew ((Below.heap_setCell (w8.setCell ⟨b, 0, none⟩ (.string (z.extract m z.size))) ⟨go, 2, none⟩ (.string (z.extract 0 m)) gr (by have := HLo.out; have := HG.out; dsimp only; omega)).trans HK9.out))
    have HKo10 := Aside0.mk (blk_drew (blk_put (cs' := #[.bool false, .string (r.extract 0 y.toNat), .string (z.extract 0 m)]) HKo9.out 2 (.string (z.extract 0 m)) rfl))
    generalize hw10 : ((w8.setCell ⟨b, 0, none⟩ (.string (z.extract m z.size))).setCell ⟨go, 2, none⟩ (.string (z.extract 0 m))).drew = w10 at *
    clear hw10
    have e0 : w10.cell? ⟨go, 0, none⟩ = some (.bool false) := (blk_cell HKo10.out 0).trans rfl
    have e1 : w10.cell? ⟨go, 1, none⟩ = some (.string (r.extract 0 y.toNat)) := (blk_cell HKo10.out 1).trans rfl
    have e2 : w10.cell? ⟨go, 2, none⟩ = some (.string (z.extract 0 m)) := (blk_cell HKo10.out 2).trans rfl
    go_wp2_with (refine box_put rfl rfl 45 _ _ rfl gr _ #[.bool false, .string (r.extract 0 y.toNat), .string (z.extract 0 m)] rfl rfl HK10.out rfl rfl (by kernel_rfl) ?_; intro w7 HK7 HW7 HO7 HS7; have HM7 := Aside0.mk (HM10.out.step hlt.out HW7.out (Nat.le_of_eq HG.out.symm)))
    refine bodyPost_ret (res_first rfl HK7.out rfl) rfl ?_
    exact ⟨rfl, HM7.out⟩)
theorem Cut2.of {b : Nat} {s : ByteArray} (h : ¬ s.size < 2) : Cut2 b s (s.get! 0) (s.get! 1) (s.extract 2 s.size) := fun W hW => cut2 b s W hW (by omega)
theorem first_calls (b : Nat) (s : ByteArray) (w : World) (hb : w.heap[b]? = some (.cells #[.string s] 9 (0, 0))) :
    Calls Tryd.prog 62 #[.pointer (some ⟨b, 0, none⟩)] w (Good (firstB s).1 (firstB s).2.1 b s (firstB s).2.2 w) := by
  unfold firstB
  by_cases h1 : s.size < 2
  · rw [if_pos h1]
    exact first_a b s w hb h1
  · rw [if_neg h1]
    have C := Cut2.of (b := b) h1
    generalize s.get! 0 = x at *
    generalize s.get! 1 = y at *
    generalize s.extract 2 s.size = r at *
    by_cases h2 : 1 < x.toNat
    · rw [if_pos h2]
      exact first_b b s r x y w hb C h2
    · rw [if_neg h2]
      by_cases h3 : r.size < y.toNat
      · rw [if_pos h3]
        exact first_c b s r x y _ w hb C h2 (by rw [Bool.eq_iff_iff]; simp only [beq_iff_eq]; omega) h3
      · rw [if_neg h3]
        by_cases h4 : x.toNat = 1
        · rw [if_pos h4]
          exact first_d b s r x y w hb C h2 (by simp only [beq_iff_eq]; omega) (by omega)
        · rw [if_neg h4]
          have hg : ((x.toNat : Int) == 1) = false := by
            rw [beq_eq_false_iff_ne]
            omega
          unfold firstB.firstC
          by_cases h5 : (r.extract y.toNat r.size).size < 2
          · rw [if_pos h5]
            exact first_e b s r x y w hb C h2 hg (by omega) h5
          · rw [if_neg h5]
            have C2 := Cut2.of (b := b) h5
            by_cases h6 : ((r.extract y.toNat r.size).extract 2 (r.extract y.toNat r.size).size).size < ((r.extract y.toNat r.size).get! 0).toNat * 256 + ((r.extract y.toNat r.size).get! 1).toNat
            · rw [if_pos h6]
              exact first_f b s r x y _ _ _ w hb C h2 hg (by omega) C2 h6
            · rw [if_neg h6]
              exact first_g b s r x y _ _ _ w hb C h2 hg (by omega) C2 _ rfl (by omega)
end Go.Proofs.YtnhhbmekjoanbaaDoor.P
set_option linter.unusedVariables false
set_option linter.unusedSimpArgs false
namespace Go.Proofs.YtnhhbmekjoanbaaDoor.P
open Go Go.RowKit
theorem geq_str (t : TypeId) (a b : ByteArray) : binOp .geq t (.string a) (.string b) = pure (.bool (!Op.bytesLess a.toList b.toList)) := by
  rw [binOp_string_geq]
end Go.Proofs.YtnhhbmekjoanbaaDoor.P
namespace Go.Proofs.YtnhhbmekjoanbaaDoor.P
open Go.RowKit Go.Proofs.YtnhhbmekjoanbaaDoorW.PrintWords Go.Proofs.YtnhhbmekjoanbaaDoorW.PrintLast Go.Proofs.YtnhhbmekjoanbaaDoorW.PrintMore
attribute [local go_sem] max2_int min2_int max_two min_two max_three min_three max_four min_four
set_option linter.unusedVariables false
set_option linter.unusedSimpArgs false
theorem rdF_drop {l : List S49} {i : Nat} {x : S49} {r : List S49} (h : l.drop i = x :: r) : rd_T49 l (i : Int) = x ∧ i < l.length ∧ l.drop (i + 1) = r := by
  have hi : i < l.length := by
    apply Nat.lt_of_not_le
    intro c
    rw [List.drop_eq_nil_iff.2 c] at h; cases h
  rw [List.drop_eq_getElem_cons hi] at h
  have h1 := (List.cons.inj h).1
  have h2 := (List.cons.inj h).2
  refine ⟨?_, hi, h2⟩
  unfold rd_T49
  rw [Int.toNat_natCast, List.getD_eq_getElem?_getD, List.getElem?_eq_getElem hi]
  exact h1
/-- Where a path stands. -/
def idxF (p : ByteArray) : Nat → List S49 → Int
  | _, [] => -1
  | i, x :: r => if (x.f0.toList == p.toList) = true then (i : Int) else idxF p (i + 1) r
set_option maxHeartbeats 2000000 in
set_option maxRecDepth 100000 in
theorem get1_any (a b p : ByteArray) (B : Nat) (W : World) (hB : W.heap[B]? = some (.cells #[.string p] 9 (0, 0))) :
    Calls Tryd.prog 31 #[.agg #[.string a, .string b], .pointer (some ⟨B, 0, none⟩)] W fun e w' => e = .returned (.bool (a.toList == p.toList)) ∧ Below W.heap.size W w' := by
  have hu := Tryd.underlying49
  have hB2 := Aside0.mk (blk_below hB ((Below.refl _ W).alloc (Nat.le_refl _) (.cells #[.string a, .string b] 49)))
  clear hB
  have hq : (W.alloc (.cells #[.string a, .string b] 49)).cell? ⟨B, 0, none⟩ = some (.string p) := (blk_cell hB2.out 0).trans rfl
  go_enter Tryd.func31, Tryd.ntmps31
  go_wp2
  go_ret
  exact ⟨rfl, (Below.refl _ _).alloc (Nat.le_refl _) _⟩
set_option maxHeartbeats 8000000 in
set_option maxRecDepth 100000 in
theorem index_any (p : ByteArray) (B : Nat) (A0 : Option Addr) (c0 : Nat) (l : List S49) (w : World) (h0 : Kd.C k49 w A0 l.length l) (g0 : l.length ≤ c0) (hB : w.heap[B]? = some (.cells #[.string p] 9 (0, 0))) :
    Calls Tryd.prog 30 #[.slice A0 l.length c0, .func (.func 31) #[] #[.pointer (some ⟨B, 0, none⟩)]] w fun e w' => e = .returned (.int .i64 (idxF p 0 l)) ∧ Below w.heap.size w w' := by
  have H0 := Aside0.mk h0
  have G0 := Aside0.mk g0
  have HN := Aside0.mk h0.2.1
  have HBB := Aside0.mk hB
  have HB := Aside0.mk (Below.refl w.heap.size w)
  clear h0 g0 hB
  have hu := Tryd.underlying49
  go_enter Tryd.func30, Tryd.ntmps30
  go_wp2_with (fail)
  go_loopg [8] l.length (fun kq v8 W => ∃ (i : Nat), v8 = .int .i64 (i : Int) ∧ Aside0 (kq + i = l.length) ∧ Aside0 (idxF p i (l.drop i) = idxF p 0 l) ∧ Aside0 (Below w.heap.size w W))
  case atStart => exact ⟨0, rfl, ⟨by omega⟩, ⟨rfl⟩, HB⟩
  case round =>
    clear HB
    obtain ⟨i, rfl, HI, HX, HB⟩ := hrel
    cases gk with
    | zero =>
      have ei : i = l.length := by have := HI.out; omega
      subst ei
      have d0 : decide ((l.length : Int) < (l.length : Int)) = false := decide_eq_false (by omega)
      have hE := Aside0.mk (show idxF p 0 l = -1 from by rw [← HX.out, List.drop_of_length_le (Nat.le_refl _)]; rfl)
      go_wp2
      go_ret
      exact ⟨by rw [hE.out]; rfl, HB.out⟩
    | succ k1 =>
      have hlt : i < l.length := by have := HI.out; omega
      obtain ⟨x, r, hxr⟩ : ∃ x r, l.drop i = x :: r := ⟨_, _, List.drop_eq_getElem_cons hlt⟩
      obtain ⟨hx, -, hd⟩ := rdF_drop hxr
      have d0 : decide ((i : Int) < (l.length : Int)) = true := decide_eq_true (by omega)
      have d1 : decide (i < l.length) = true := decide_eq_true hlt
      have p0 : (0 : Int) ≤ (i : Int) := by omega
      have p1 : (i : Int) < (l.length : Int) := by omega
      have hw1 : IntKind.i64.wrap ((i : Int) + 1) = (i : Int) + 1 := by rw [IntKind.wrap_i64]; have := HN.out; omega
      obtain ⟨ad, e1, hx0, hx1⟩ := at_T49 (Kd.C_below H0.out HB.out) (i : Int) p0 p1
      rw [hx, Int.toNat_natCast] at hx0 hx1
      have HRW := Aside0.mk (show (if (x.f0.toList == p.toList) = true then (i : Int) else idxF p (i + 1) r) = idxF p 0 l from by rw [← HX.out, hxr, idxF])
      have HD := Aside0.mk hd
      have HLT := Aside0.mk hlt
      have HG := Aside0.mk (fun W hW => get1_any x.f0 x.f1 p B W hW)
      subst e1
      clear hx hxr hd hlt
      generalize hb0 : (x.f0.toList == p.toList) = b at *
      cases b with
      | true =>
        go_wp2_with (go_at_call 31; refine (HG.out _ (blk_below HBB.out HB.out)).mono ?_; rintro e w10 ⟨rfl, hb⟩; replace HB := Aside0.mk (below_step HB.out hb); clear hb)
        go_ret
        exact ⟨by rw [← HRW.out]; rfl, HB.out⟩
      | false =>
        go_wp2_with (go_at_call 31; refine (HG.out _ (blk_below HBB.out HB.out)).mono ?_; rintro e w10 ⟨rfl, hb⟩; replace HB := Aside0.mk (below_step HB.out hb); clear hb)
        go_roundg k1
        case measure => omega
        case rel => exact ⟨i + 1, by simp, ⟨by have := HI.out; omega⟩, ⟨by rw [HD.out]; exact HRW.out⟩, HB⟩
end Go.Proofs.YtnhhbmekjoanbaaDoor.P
set_option linter.unusedVariables false
set_option linter.unusedSimpArgs false
namespace Go.Proofs.YtnhhbmekjoanbaaDoor.P
open Go Go.RowKit
theorem leq_str (t : TypeId) (a b : ByteArray) : binOp .leq t (.string a) (.string b) = pure (.bool (!Op.bytesLess b.toList a.toList)) := by
  rw [binOp_string_leq, ← less_rev a.toList b.toList, Bool.not_not]
end Go.Proofs.YtnhhbmekjoanbaaDoor.P
namespace Go.Proofs.YtnhhbmekjoanbaaDoor.P
open Go.RowKit Go.Proofs.YtnhhbmekjoanbaaDoorW.PrintWords Go.Proofs.YtnhhbmekjoanbaaDoorW.PrintLast Go.Proofs.YtnhhbmekjoanbaaDoorW.PrintMore
set_option linter.unusedVariables false
def plainB (c : Int) : Bool := decide ((97 ≤ c ∧ c ≤ 122) ∨ (65 ≤ c ∧ c ≤ 90) ∨ (48 ≤ c ∧ c ≤ 57) ∨ c = 45 ∨ c = 95 ∨ c = 46)
theorem plain_f (c : Int) : files_plain.f c = some (plainB c) := by
  unfold files_plain.f plainB
  have e : (c == 46) = decide (c = 46) := rfl
  rw [e]
  repeat' split
  all_goals (congr 1; first | (symm; apply decide_eq_true; omega) | (apply decide_eq_decide.2; omega))
def partB (s : ByteArray) : Bool := (List.range s.size).all (fun i => plainB (bt s (i : Int))) && (!(s.toList == []) && (!(s.toList == [46]) && !(s.toList == [46, 46])))
theorem part_l0 (s : ByteArray) (hs : s.size ≤ 1000000) : ∀ (d i k : Nat), s.size - i = d → i ≤ s.size → d < k → files_part.l0 k s (s.size : Int) (i : Int) =
    some ((List.range' i d).all (fun i => plainB (bt s (i : Int))) && (!(s.toList == []) && (!(s.toList == [46]) && !(s.toList == [46, 46]))))
  | 0, i, k, hd, hi, hk => by
    obtain ⟨k, rfl⟩ : ∃ k', k = k' + 1 := ⟨k - 1, by omega⟩
    rw [files_part.l0, if_neg (by omega)]
    simp only [List.range'_zero, List.all_nil, Bool.true_and]
    by_cases h1 : s.toList = []
    · rw [if_pos h1, h1]; rfl
    · rw [if_neg h1]
      by_cases h2 : s.toList = [46]
      · rw [if_pos h2, h2]; rfl
      · rw [if_neg h2, beq_eq_false_iff_ne.2 h1, beq_eq_false_iff_ne.2 h2]
        rfl
  | d + 1, i, k, hd, hi, hk => by
    obtain ⟨k, rfl⟩ : ∃ k', k = k' + 1 := ⟨k - 1, by omega⟩
    rw [files_part.l0, if_pos (by omega), if_pos (by omega), if_pos (by omega), plain_f]
    simp only [Option.bind_some]
    rw [List.range'_succ, List.all_cons, gw64 (by omega) (by omega)]
    by_cases h : plainB (bt s (i : Int)) = true
    · rw [if_pos h, h, Bool.true_and]
      exact part_l0 s hs d (i + 1) k (by omega) (by omega) (by omega)
    · rw [if_neg h, Bool.eq_false_iff.2 h]
      simp only [Bool.false_and]
theorem part_f (s : ByteArray) (hs : s.size ≤ 1000000) (k : Nat) (hk : s.size < k) : files_part.f k s = some (partB s) := by
  unfold files_part.f partB
  have h := part_l0 s hs s.size 0 k (by omega) (by omega) hk
  rw [List.range_eq_range']
  exact h
end Go.Proofs.YtnhhbmekjoanbaaDoor.P
namespace Go.Proofs.YtnhhbmekjoanbaaDoor.P
open Go.RowKit Go.Proofs.YtnhhbmekjoanbaaDoorW.PrintWords Go.Proofs.YtnhhbmekjoanbaaDoorW.PrintLast Go.Proofs.YtnhhbmekjoanbaaDoorW.PrintMore Go.Proofs.YtnhhbmekjoanbaaDoor.Rg
attribute [local go_sem] Oper.semAt_some
set_option linter.unusedVariables false
set_option linter.unusedSimpArgs false
/-- The three captured variables: the text, the sign, how much of the sign is kept. -/
def SeqB (bs : Nat) (c : UInt8) (x : ByteArray) (W : World) : Prop :=
  W.heap[bs]? = some (.cells #[.string x] 9 (0, 0)) ∧ W.heap[bs + 1]? = some (.cells #[.string ⟨#[c]⟩] 9 (0, 0)) ∧ W.heap[bs + 2]? = some (.cells #[.int .i64 0] 3 (0, 0))
theorem SeqB.cells {bs : Nat} {c : UInt8} {x : ByteArray} {W : World} (h : SeqB bs c x W) : W.cell? ⟨bs, 0, none⟩ = some (.string x) ∧ W.cell? ⟨bs + 1, 0, none⟩ = some (.string ⟨#[c]⟩) ∧ W.cell? ⟨bs + 2, 0, none⟩ = some (.int .i64 0) ∧ W.frozen? ⟨bs, 0, none⟩ = false :=
  ⟨blk_cell h.1 0, blk_cell h.2.1 0, blk_cell h.2.2 0, blk_frozen h.1 0⟩
theorem SeqB.same {bs : Nat} {c : UInt8} {x : ByteArray} {W W' : World} (h : SeqB bs c x W) (hk : ∀ k, (bs ≤ k ∧ k < bs + 3) → W'.heap[k]? = W.heap[k]?) : SeqB bs c x W' :=
  ⟨(hk _ ⟨by omega, by omega⟩).trans h.1, (hk _ ⟨by omega, by omega⟩).trans h.2.1, (hk _ ⟨by omega, by omega⟩).trans h.2.2⟩
theorem SeqB.put {bs : Nat} {c : UInt8} {x : ByteArray} {W : World} (h : SeqB bs c x W) (y : ByteArray) : SeqB bs c y (W.setCell ⟨bs, 0, none⟩ (.string y)) :=
  ⟨blk_put h.1 0 _ rfl, blk_far h.2.1 (p := ⟨bs, 0, none⟩) (by simp) _, blk_far h.2.2 (p := ⟨bs, 0, none⟩) (by simp) _⟩
def leftS (b : Nat) (W : World) : Nat := match W.cell? ⟨b, 0, none⟩ with
  | some (.string x) => x.size
  | _ => 0
theorem leftS_eq {bs : Nat} {c : UInt8} {x : ByteArray} {W : World} (h : SeqB bs c x W) : leftS bs W = x.size := by
  unfold leftS; rw [h.cells.1]
set_option maxHeartbeats 8000000 in
set_option maxRecDepth 100000 in
theorem splitSeq_iter (n bs : Nat) (c : UInt8) (s : ByteArray) (hs : s.size ≤ 1000000) :
    Iter Tryd.prog n 63 #[.pointer (some ⟨bs + 1, 0, none⟩), .pointer (some ⟨bs, 0, none⟩), .pointer (some ⟨bs + 2, 0, none⟩)] (fun x : ByteArray => #[Value.string x]) (spl c s) bs (fun k => bs ≤ k ∧ k < bs + 3) (SeqB bs c s) := by
  intro l J Jx W hW cJ cX hY h0
  have HS := Aside0.mk hs
  have HY := Aside0.mk hY
  have h1 : (⟨#[c]⟩ : ByteArray).size = 1 := rfl
  clear hs hY
  refine callsIn_of_wp Tryd.func63 rfl trivial ?_ rfl
  simp only [Tryd.ntmps63, List.size_toArray, List.length_cons, List.length_nil, Nat.reduceAdd, Nat.reduceSub, Array.replicate_succ, Array.replicate_zero, List.push_toArray, List.append_toArray, List.nil_append, List.cons_append]
  obtain ⟨k0, k1, k2, k3⟩ := hW.cells
  have HB := Aside0.mk hW
  clear hW
  gi_wp2
  gi_loopw [7] (fun v7 wr => ∃ (x : ByteArray) (k : Nat) (done : List ByteArray), Aside0 (SeqB bs c x wr) ∧ Aside0 (J done wr) ∧ Aside0 (spl c s = done ++ pieces c k x ∧ cnt c x = k ∧ x.size ≤ s.size)) (fun _ wr => leftS bs wr)
  case atStart => exact ⟨s, cnt c s, [], HB, ⟨h0⟩, ⟨rfl, rfl, Nat.le_refl _⟩⟩
  case round =>
    clear HB k0 k1 k2 k3 h0
    obtain ⟨x, k, done, HB, HJ, HX⟩ := hrel
    obtain ⟨k0, k1, k2, k3⟩ := HB.out.cells
    have hxs : x.size ≤ 1000000 := Nat.le_trans HX.out.2.2 HS.out
    cases k with
    | zero =>
      have HI := Aside0.mk (cnt_none HX.out.2.1)
      obtain ⟨fn, tmps, assign, body, hy, hR⟩ := HY.out done x [] wr (by rw [HX.out.1]; rfl) HJ.out
      gi_wp2_with (first
        | (refine ⟨trivial, ?_⟩; gi_at_call 65; refine (callsIn_wide.2 (YtnhhbmekjoanbaaDoorS.strings_Index_one x c _)).mono ?_; rintro e w' ⟨rfl, hww⟩; subst w'; rw [HI.out]))
      refine hR.mono ?_
      rintro e W3 (⟨rfl, hJ3, hk3⟩ | ⟨rfl, hJx3⟩)
      · gi_wp2
        go_end0
        exact ⟨⟨_, rfl⟩, .inl (by have := HX.out.1; rw [pieces] at this; rw [this]; exact hJ3)⟩
      · gi_wp2
        go_end0
        exact ⟨⟨_, rfl⟩, .inr ⟨done, x, [], by rw [HX.out.1]; rfl, hJx3⟩⟩
    | succ k =>
      have hx := cnt_pos (c := c) (s := x) (by have := HX.out.2.1; omega)
      obtain ⟨m, hm⟩ : ∃ m, ix c x = m := ⟨_, rfl⟩
      rw [hm] at hx
      have HI := Aside0.mk hx.1
      have hmx := hx.2.1
      have hcx := Aside0.mk hx.2.2
      have HM := Aside0.mk hm
      have m0 : decide ((m : Int) < 0) = false := decide_eq_false (by omega)
      have m1 : (m : Int) ≤ (x.size : Int) := by omega
      have m2 : IntKind.i64.wrap (m : Int) = (m : Int) := by rw [IntKind.wrap_i64]; omega
      have m3 : IntKind.i64.wrap ((m : Int) + 1) = (m : Int) + 1 := by rw [IntKind.wrap_i64]; omega
      have m4 : (m : Int) + 1 ≤ (x.size : Int) := by omega
      have m5 : (0 : Int) ≤ (m : Int) + 1 := by omega
      have m6 : (0 : Int) ≤ (m : Int) := by omega
      obtain ⟨fn, tmps, assign, body, hy, hR⟩ := HY.out done (x.extract 0 m) (pieces c k (x.extract (m + 1) x.size)) wr (by rw [HX.out.1, pieces, HM.out]) HJ.out
      clear hx hm
      gi_wp2_with (first
        | (refine ⟨trivial, ?_⟩; gi_at_call 65; refine (callsIn_wide.2 (YtnhhbmekjoanbaaDoorS.strings_Index_one x c _)).mono ?_; rintro e w' ⟨rfl, hww⟩; subst w'; rw [HI.out]))
      refine hR.mono ?_
      rintro e W3 (⟨rfl, hJ3, hk3⟩ | ⟨rfl, hJx3⟩)
      · have HB3 := Aside0.mk (HB.out.same hk3)
        clear k0 k1 k2 k3 hk3
        obtain ⟨k0, k1, k2, k3⟩ := HB3.out.cells
        replace hJ3 := Aside0.mk hJ3
        gi_wp2
        go_roundw
        case rel => exact ⟨x.extract (m + 1) x.size, k, done ++ [x.extract 0 m], ⟨HB3.out.put _⟩, ⟨cJ.cell _ hJ3.out⟩, ⟨by rw [HX.out.1, pieces, HM.out, List.append_assoc]; rfl, by have := hcx.out; have := HX.out.2.1; omega, by rw [ByteArray.size_extract]; have := HX.out.2.2; omega⟩⟩
        case measure => rw [leftS_eq (HB3.out.put _), leftS_eq HB.out, ByteArray.size_extract]; omega
      · gi_wp2
        refine bodyPost_ret (results_none rfl _ _ _) rfl ?_
        exact ⟨⟨_, rfl⟩, .inr ⟨done, x.extract 0 m, pieces c k (x.extract (m + 1) x.size), by rw [HX.out.1, pieces, HM.out], hJx3⟩⟩
end Go.Proofs.YtnhhbmekjoanbaaDoor.P
