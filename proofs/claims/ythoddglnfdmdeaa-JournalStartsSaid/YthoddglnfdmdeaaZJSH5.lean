/- journal: acts: write, flush, head, walked. -/
import Derived.Test.YthoddglnfdmdeaaZJSM0
import Derived.Test.YthoddglnfdmdeaaZJSM2
import Derived.Test.YthoddglnfdmdeaaZJSM4
import Derived.Outline
import Derived.Sort.AtCall
import Derived.Test.YthoddglnfdmdeaaZJSH0
import Derived.Test.YthoddglnfdmdeaaZJSH4
import Derived.Test.YthoddglnfdmdeaaZJSH1
import Derived.Test.YthoddglnfdmdeaaZJSM1
namespace Go.Proofs.Ythoddglnfdmdeaa.P
open Go.RowKit Go.Proofs.YthoddglnfdmdeaaW.PrintWords Go.Proofs.YthoddglnfdmdeaaW.PrintLast Go.Proofs.YthoddglnfdmdeaaW.PrintMore
attribute [local go_sem] max2_int min2_int max_two min_two max_three min_three max_four min_four
set_option linter.unusedVariables false
set_option linter.unusedSimpArgs false
/-- What block g has: acts, whose row was made behind w0. -/
def ActsAt (w0 : World) (g : Nat) (xs : List S85) (W : World) : Prop :=
  ∃ v, Below w0.heap.size (w0.setCell ⟨g, 0, none⟩ v) W ∧ W.heap[g]? = some (.cells #[v] 82 (0, 0)) ∧ Kd.R k85 85 W w0.heap.size (fun k => w0.heap.size ≤ k) v xs
theorem below_reset {B t : Nat} {w0 W : World} {g : Nat} {v v0 v' : Value} (h : Below B (w0.setCell ⟨g, 0, none⟩ v) W) (hg : w0.heap[g]? = some (.cells #[v0] t (0, 0))) (hW : W.heap[g]? = some (.cells #[v] t (0, 0))) :
    Below B (w0.setCell ⟨g, 0, none⟩ v') (W.setCell ⟨g, 0, none⟩ v') := by
  refine ⟨h.os, h.tape, h.output, by have := h.size; simpa [World.setCell] using this, fun k hk => ?_⟩
  by_cases e : k = g
  · subst e
    rw [blk_put (cs' := #[v']) hW 0 v' rfl, blk_put (cs' := #[v']) hg 0 v' rfl]
  · rw [Below.heap_setCell _ _ _ _ e, Below.heap_setCell _ _ _ _ e, h.block k hk, Below.heap_setCell _ _ _ _ e]
theorem acts_first {w0 : World} {g : Nat} (hg : w0.heap[g]? = some (.cells #[.slice none 0 0] 82 (0, 0))) : ActsAt w0 g [] w0 := by
  refine ⟨_, ⟨rfl, rfl, rfl, by simp [World.setCell], fun k hk => ?_⟩, hg, Kd.R_nil _ _ _ _ _⟩
  by_cases e : k = g
  · subst e
    rw [blk_put hg 0 _ rfl, hg]; rfl
  · rw [Below.heap_setCell _ _ _ _ e]
theorem acts_block {w0 W : World} {g k : Nat} {xs : List S85} {o : Obj} (h : ActsAt w0 g xs W) (hk : w0.heap[k]? = some o) (hne : k ≠ g) : W.heap[k]? = some o := by
  obtain ⟨v, hb, -, -⟩ := h
  rw [hb.block k (blk_lt hk), Below.heap_setCell _ _ _ _ hne, hk]
theorem acts_below {w w0 W : World} {g B : Nat} {xs : List S85} (h : ActsAt w0 g xs W) (hb0 : Below B w w0) (hB : B ≤ w0.heap.size) (hg : B ≤ g) : Below B w W := by
  obtain ⟨v, hb, -, -⟩ := h
  exact (hb0.setCell (p := ⟨g, 0, none⟩) hg v).trans (hb.mono hB)
set_option maxHeartbeats 4000000 in
set_option maxRecDepth 100000 in
theorem acts_write (w0 : World) (g : Nat) (v0 : Value) (xs : List S85) (at_ : Int) (data : ByteArray) (w : World) (hg : w0.heap[g]? = some (.cells #[v0] 82 (0, 0))) (h : ActsAt w0 g xs w) (hl : xs.length ≤ 100000) :
    Calls Try.prog 45 #[.pointer (some ⟨g, 0, none⟩), .int .i64 at_, .string data] w fun e w' => e = .returned (.tuple #[]) ∧ ActsAt w0 g (xs ++ [⟨false, at_, data⟩]) w' := by
  obtain ⟨v, hB, hbk, hr⟩ := h
  have hu82 := Try.underlying82
  have hu85 := Try.underlying85
  have HG := Aside0.mk hg
  have HB := Aside0.mk hB
  have HO := Aside0.mk hr
  have BK := Aside0.mk hbk
  have HL := Aside0.mk hl
  have hcz := (blk_cell hbk 0).trans (show _ = some v from rfl)
  have hfz := blk_frozen hbk 0
  have HS := Aside0.mk (show w0.heap.size ≤ w.heap.size from by have := hB.size; simpa [World.setCell] using this)
  clear hg hB hr hbk hl
  go_enter Try.func45, Try.ntmps45
  go_wp2_with (first
    | ((with_reducible refine gate_builtin (b := .append) (xs := #[.tmp 10, .tmp 14]) rfl ?_); at_builtin; refine Kd.R_append k85 (w0 := w0.setCell ⟨g, 0, none⟩ v) w0.heap.size rfl (.tmp 10) (.tmp 14) 46 85 (.agg #[.bool false, .int .i64 0, .string ⟨#[]⟩]) 32 rfl Try.underlying46 info85 rfl (by decide) (by omega) v xs (⟨false, at_, data⟩ : S85) [.bool false, .int .i64 at_, .string data] (fun k_ => (w0.heap.size ≤ k_)) (fun _ => False) rfl rfl (k85_mkM _ _ _ (⟨false, at_, data⟩ : S85)) (fun _ hk => hk.elim) (fun k_ hk => Nat.le_trans HS.out hk) HO.out HB.out HS.out (by have := HL.out; omega) ?_; intro v1 w1 ho hb hg hat; have HO0 := HO; replace HO := Aside0.mk ho; replace HB := Aside0.mk hb; replace BK := Aside0.mk (blk_grown BK.out hg (Kd.R_ne HO0.out BK.out (by decide))); clear ho hb hg hat hcz hfz; obtain ⟨Ao, co, eo⟩ := Kd.R_slice HO.out; rw [List.length_append, List.length_singleton] at eo; subst eo; have hcz := (blk_cell BK.out 0).trans (show _ = some v from rfl); have hfz := blk_frozen BK.out 0))

  go_end0
  exact ⟨rfl, _, below_reset HB.out HG.out BK.out, blk_put BK.out 0 _ rfl, Kd.R_mono (Kd.R_far (p := ⟨g, 0, none⟩) (Kd.R_types HO.out BK.out (by decide)) (fun _ hk => hk.2) _) (fun _ hk => hk.1)⟩
set_option maxHeartbeats 4000000 in
set_option maxRecDepth 100000 in
theorem acts_flush (w0 : World) (g : Nat) (v0 : Value) (xs : List S85) (w : World) (hg : w0.heap[g]? = some (.cells #[v0] 82 (0, 0))) (h : ActsAt w0 g xs w) (hl : xs.length ≤ 100000) :
    Calls Try.prog 46 #[.pointer (some ⟨g, 0, none⟩)] w fun e w' => e = .returned (.tuple #[]) ∧ ActsAt w0 g (xs ++ [⟨true, 0, ⟨#[]⟩⟩]) w' := by
  obtain ⟨v, hB, hbk, hr⟩ := h
  have hu82 := Try.underlying82
  have hu85 := Try.underlying85
  have HG := Aside0.mk hg
  have HB := Aside0.mk hB
  have HO := Aside0.mk hr
  have BK := Aside0.mk hbk
  have HL := Aside0.mk hl
  have hcz := (blk_cell hbk 0).trans (show _ = some v from rfl)
  have hfz := blk_frozen hbk 0
  have HS := Aside0.mk (show w0.heap.size ≤ w.heap.size from by have := hB.size; simpa [World.setCell] using this)
  clear hg hB hr hbk hl
  go_enter Try.func46, Try.ntmps46
  go_wp2_with (first
    | ((with_reducible refine gate_builtin (b := .append) (xs := #[.tmp 6, .tmp 8]) rfl ?_); at_builtin; refine Kd.R_append k85 (w0 := w0.setCell ⟨g, 0, none⟩ v) w0.heap.size rfl (.tmp 6) (.tmp 8) 46 85 (.agg #[.bool false, .int .i64 0, .string ⟨#[]⟩]) 32 rfl Try.underlying46 info85 rfl (by decide) (by omega) v xs (⟨true, 0, ⟨#[]⟩⟩ : S85) [.bool true, .int .i64 0, .string ⟨#[]⟩] (fun k_ => (w0.heap.size ≤ k_)) (fun _ => False) rfl rfl (k85_mkM _ _ _ (⟨true, 0, ⟨#[]⟩⟩ : S85)) (fun _ hk => hk.elim) (fun k_ hk => Nat.le_trans HS.out hk) HO.out HB.out HS.out (by have := HL.out; omega) ?_; intro v1 w1 ho hb hg hat; have HO0 := HO; replace HO := Aside0.mk ho; replace HB := Aside0.mk hb; replace BK := Aside0.mk (blk_grown BK.out hg (Kd.R_ne HO0.out BK.out (by decide))); clear ho hb hg hat hcz hfz; obtain ⟨Ao, co, eo⟩ := Kd.R_slice HO.out; rw [List.length_append, List.length_singleton] at eo; subst eo; have hcz := (blk_cell BK.out 0).trans (show _ = some v from rfl); have hfz := blk_frozen BK.out 0))

  go_end0
  exact ⟨rfl, _, below_reset HB.out HG.out BK.out, blk_put BK.out 0 _ rfl, Kd.R_mono (Kd.R_far (p := ⟨g, 0, none⟩) (Kd.R_types HO.out BK.out (by decide)) (fun _ hk => hk.2) _) (fun _ hk => hk.1)⟩
/-- What head appends. -/
def headActs (k : Nat) (at_ kind gen seq : Int) (payload : ByteArray) : Option (List S85) :=
  (rec_Make.f k kind gen seq payload).bind fun h => (rec_Head_Text.f k h.1 h.2.1 h.2.2.1 h.2.2.2.1 h.2.2.2.2.1).bind fun s => some [⟨false, at_, s.1⟩, ⟨true, 0, ⟨#[]⟩⟩]
theorem acts_move {w0 W W' : World} {g : Nat} {xs : List S85} (h : ActsAt w0 g xs W) (hb : Below W.heap.size W W') : ActsAt w0 g xs W' := by
  obtain ⟨v, hB, hbk, hr⟩ := h
  have hs : w0.heap.size ≤ W.heap.size := by have := hB.size; simpa [World.setCell] using this
  exact ⟨v, hB.trans (hb.mono hs), blk_below hbk hb, Kd.R_below hr hb⟩
set_option maxHeartbeats 4000000 in
set_option maxRecDepth 100000 in
theorem acts_head (k : Nat) (w0 : World) (g : Nat) (v0 : Value) (xs ys : List S85) (at_ kind gen seq : Int) (payload : ByteArray) (w : World) (hg : w0.heap[g]? = some (.cells #[v0] 82 (0, 0))) (h : ActsAt w0 g xs w) (hl : xs.length ≤ 99990) (hf : headActs k at_ kind gen seq payload = some ys) :
    Calls Try.prog 38 #[.pointer (some ⟨g, 0, none⟩), .int .i64 at_, .int .i64 kind, .int .i64 gen, .int .i64 seq, .string payload] w fun e w' => e = .returned (.tuple #[]) ∧ ActsAt w0 g (xs ++ ys) w' := by
  unfold headActs at hf
  obtain ⟨⟨h1, h2, h3, h4, h5, h6⟩, hm, hf⟩ := Option.bind_eq_some_iff.1 hf
  obtain ⟨⟨s1, s2⟩, ht, hf⟩ := Option.bind_eq_some_iff.1 hf
  have hys := (Option.some.inj hf).symm
  have HM := Aside0.mk hm
  have HT := Aside0.mk ht
  have HG := Aside0.mk hg
  have HA := Aside0.mk h
  have HL := Aside0.mk hl
  have hu73 := Try.underlying73
  clear hg h hl hm ht hf
  go_enter Try.func38, Try.ntmps38
  go_wp2_with (first
    | (go_at_call 34; refine (rec_Make.calls k _ _ _ _ _ _ _ _ _ _ _ HM.out).mono ?_; rintro e w1 ⟨rfl, hb⟩; replace HA := Aside0.mk (acts_move HA.out hb); clear hb)
    | (go_at_call 57; refine (rec_Head_Text.calls k _ _ _ _ _ _ _ _ HT.out).mono ?_; rintro e w2 ⟨rfl, hb⟩; replace HA := Aside0.mk (acts_move (acts_move HA.out ((Below.refl _ _).alloc (Nat.le_refl _) _)) hb); clear hb)
    | (go_at_call 45; refine (acts_write w0 g v0 xs _ _ _ HG.out HA.out (by have := HL.out; omega)).mono ?_; rintro e w3 ⟨rfl, hb⟩; replace HA := Aside0.mk hb; clear hb)
    | (go_at_call 46; refine (acts_flush w0 g v0 _ _ HG.out HA.out (by have := HL.out; rw [List.length_append, List.length_singleton]; omega)).mono ?_; rintro e w4 ⟨rfl, hb⟩; replace HA := Aside0.mk hb; clear hb))
  go_end0
  refine ⟨rfl, ?_⟩
  rw [hys, show xs ++ [(⟨false, at_, s1⟩ : S85), ⟨true, 0, ⟨#[]⟩⟩] = (xs ++ [⟨false, at_, s1⟩]) ++ [⟨true, 0, ⟨#[]⟩⟩] from by rw [List.append_assoc]; rfl]
  exact HA.out
end Go.Proofs.Ythoddglnfdmdeaa.P
namespace Go.Proofs.Ythoddglnfdmdeaa.P
open Go.RowKit Go.Shelf Go.Proofs.YthoddglnfdmdeaaW.PrintWords Go.Proofs.YthoddglnfdmdeaaW.PrintLast Go.Proofs.YthoddglnfdmdeaaW.PrintMore
set_option linter.unusedVariables false
set_option linter.unusedSimpArgs false
theorem Builder_WriteString (B b : Nat) (bs : List Value) (s : ByteArray) (w : World) (h : Lib.IsBuilder 108 5 B b bs w) (hlen : bs.length + s.size ≤ 140737488355328) (hBw : B ≤ w.heap.size) :
    Calls Try.prog 67 #[.pointer (some ⟨b, 0, none⟩), .string s] w fun e w' => e = .returned (.tuple #[.int .i64 s.size, .nilIface]) ∧ Lib.BuilderAt 108 5 B b (.pointer (some ⟨b, 0, none⟩)) (bs ++ Lib.strCells s) w' ∧ Below B w w' :=
  Any.Builder_WriteString { Try.lays105 with } Try.Builder_Extra_105 B b bs s w h hlen hBw
/-- Has a list a text of another length than a sector's? -/
def odd32 (l : List ByteArray) : Bool := l.any fun s => s.size != 32
def IdxSome (l : List ByteArray) (w : World) (e : Ending) (w' : World) : Prop := ∃ n : Int, e = .returned (.int .i64 n) ∧ (decide (0 ≤ n) = odd32 l) ∧ Drawn0 w w'
theorem odd_take_succ (l : List ByteArray) (k : Nat) (h : k < l.length) : odd32 (l.take (k + 1)) = (odd32 (l.take k) || ((l.getD k ByteArray.empty).size != 32)) := by
  unfold odd32
  rw [List.take_succ_eq_append_getElem h, List.any_append, List.getD_eq_getElem?_getD, List.getElem?_eq_getElem h]
  simp
theorem odd_of_take (l : List ByteArray) (k : Nat) (h : odd32 (l.take k) = true) : odd32 l = true := by
  unfold odd32 at *
  rw [List.any_eq_true] at *
  obtain ⟨x, hx, h⟩ := h
  exact ⟨x, List.mem_of_mem_take hx, h⟩
set_option maxHeartbeats 800000 in
theorem odd_one (s : ByteArray) (w : World) : Calls Try.prog 74 #[.string s] w fun e w' => e = .returned (.bool (s.size != 32)) ∧ Drawn0 w w' := by
  have hq : ((s.size : Int) != 32) = (s.size != 32) := by
    rw [Bool.eq_iff_iff]
    simp only [bne_iff_ne, ne_eq]
    omega
  go_enter Try.func74, Try.ntmps74
  go_wp2
  go_ret
  exact ⟨by first | rfl | (simp; done) | (rw [← hq]; rfl) | (simp [*]; done), Drawn0.refl _⟩
set_option maxHeartbeats 8000000 in
set_option maxRecDepth 100000 in
theorem index_odd (A : Option Addr) (c : Nat) (l : List ByteArray) (w : World) (hr : Kd.C Kd.string w A l.length l) :
    Calls Try.prog 84 #[.slice A l.length c, .func (.func 74) #[] #[]] w (IdxSome l w) := by
  have HR := Aside0.mk hr
  have hmax : Aside0 (l.length ≤ 9223372036854775807) := ⟨(Kd.reads_of_C (d := ByteArray.empty) hr).2.1⟩
  clear hr
  go_enter Try.func84, Try.ntmps84
  go_wp2
  go_loopg [8] l.length (fun kq v8 w' => ∃ i : Nat, v8 = .int .i64 (i : Int) ∧ Aside0 (kq + i = l.length) ∧ Aside0 (odd32 (l.take i) = false) ∧ Drawn0 w w')
  case atStart => exact ⟨0, rfl, ⟨rfl⟩, ⟨rfl⟩, Drawn0.refl _⟩
  case round =>
    obtain ⟨i, rfl, HK, HO, ⟨m1, rfl⟩⟩ := hrel
    cases gk with
    | zero =>
      have c0 : decide (i < l.length) = false := decide_eq_false (by have := HK.out; omega)
      have c1 : decide ((i : Int) < (l.length : Int)) = false := decide_eq_false (by have := HK.out; omega)
      go_wp2
      go_ret
      refine ⟨-1, rfl, ?_, ⟨m1, rfl⟩⟩
      have h := HO.out
      rw [List.take_of_length_le (by have := HK.out; omega)] at h
      rw [h]; rfl
    | succ k1 =>
      have hi : Aside0 (i < l.length) := ⟨by have := HK.out; omega⟩
      have c0 : decide (i < l.length) = true := decide_eq_true hi.out
      have c1 : decide ((i : Int) < (l.length : Int)) = true := decide_eq_true (by have := hi.out; omega)
      obtain ⟨ad, rfl, ha⟩ := Kd.at_string HR.out (i : Int) (by omega) (by have := hi.out; omega)
      rw [Int.toNat_natCast] at ha
      obtain ⟨s, hs⟩ : ∃ s, rdOf ByteArray.empty l (i : Int) = s := ⟨_, rfl⟩
      rw [hs] at ha
      have hs2 : Aside0 (l.getD i ByteArray.empty = s) := ⟨hs⟩
      clear hs
      have hst := Aside0.mk (odd_take_succ l i hi.out)
      have hx : 0 ≤ (i : Int) ∧ (i : Int) < (l.length : Int) := ⟨by omega, by have := hi.out; omega⟩
      have hx2 : i < l.length := hi.out
      have hw : IntKind.i64.wrap ((i : Int) + 1) = (i : Int) + 1 := by rw [IntKind.wrap_i64]; have := hi.out; have := hmax.out; omega
      cases hodd : (s.size != 32) with
      | true =>
        have hc : ∀ W, Calls Try.prog 74 #[.string s] W fun e w' => e = .returned (.bool true) ∧ Drawn0 W w' := fun W => by rw [← hodd]; exact odd_one s W
        replace hc := Aside0.mk hc
        replace hodd := Aside0.mk hodd
        go_wp2_with (go_at_call 74; (with_reducible refine (hc.out _).mono ?_); rintro e w' ⟨rfl, ⟨nd, rfl⟩⟩)
        go_ret
        refine ⟨(i : Int), rfl, ?_, ⟨m1 + nd, rfl⟩⟩
        have h := hst.out
        rw [hs2.out, hodd.out, Bool.or_true] at h
        rw [odd_of_take l (i + 1) h]
        exact decide_eq_true (by omega)
      | false =>
        have hc : ∀ W, Calls Try.prog 74 #[.string s] W fun e w' => e = .returned (.bool false) ∧ Drawn0 W w' := fun W => by rw [← hodd]; exact odd_one s W
        replace hc := Aside0.mk hc
        replace hodd := Aside0.mk hodd
        go_wp2_with (go_at_call 74; (with_reducible refine (hc.out _).mono ?_); rintro e w' ⟨rfl, ⟨nd, rfl⟩⟩)
        go_roundg k1
        case measure => omega
        case rel =>
          have h := hst.out
          rw [hs2.out, hodd.out, HO.out] at h
          exact ⟨i + 1, rfl, ⟨by have := HK.out; omega⟩, ⟨h⟩, ⟨m1 + nd, rfl⟩⟩
set_option maxHeartbeats 2000000 in
theorem contains_odd (A : Option Addr) (c : Nat) (l : List ByteArray) (w : World) (hr : Kd.C Kd.string w A l.length l) :
    Calls Try.prog 73 #[.slice A l.length c, .func (.func 74) #[] #[]] w fun e w' => e = .returned (.bool (odd32 l)) ∧ Drawn0 w w' := by
  have HR := Aside0.mk hr
  clear hr
  go_enter Try.func73, Try.ntmps73
  go_wp2_with (go_at_call 84; (with_reducible refine (index_odd A c l _ HR.out).mono ?_); rintro e w' ⟨n, rfl, hn, ⟨nd, rfl⟩⟩; replace hn := Aside0.mk hn)
  go_ret
  refine ⟨?_, ⟨nd, rfl⟩⟩
  rw [← hn.out]
  rfl
/-- What the sectors hold behind their first bytes, one behind the other. -/
def joined : List ByteArray → ByteArray
  | [] => ⟨#[]⟩
  | s :: l => s.extract 1 s.size ++ joined l
def rec_Join.f (k : Nat) (l : List ByteArray) (a1 : Int) : Option (ByteArray × Bool) :=
  (rec_Count.f a1).bind fun n => if n = (l.length : Int) then (if odd32 l = true then some (⟨#[]⟩, false) else (if l.length ≤ 4000000000000 then (if 0 ≤ a1 then (if a1 ≤ ((joined l).size : Int) then ((rec_Cut.f k ((joined l).extract 0 a1.toNat)).bind fun c => (slices_Equal_string_string.f k c l).bind fun q => if q = true then some ((joined l).extract 0 a1.toNat, true) else some (⟨#[]⟩, false)) else none) else none) else none)) else some (⟨#[]⟩, false)
theorem rec_Join.mono : ∀ a0 a1 k, LeO (rec_Join.f k a0 a1) (rec_Join.f (k + 1) a0 a1) := by
  intro a0 a1 k
  unfold rec_Join.f
  repeat' first
      | (with_reducible exact rec_Cut.mono _ _)
      | (with_reducible exact slices_Equal_string_string.mono _ _ _)
      | (with_reducible exact LeO.refl _)
      | (with_reducible exact LeO.none _)
      | (with_reducible refine LeO.ite ?_ ?_)
      | (with_reducible refine LeO.bind ?_ (fun _ => ?_))
set_option maxHeartbeats 4000000 in
set_option maxRecDepth 100000 in
theorem join_no (A : Option Addr) (c : Nat) (l : List ByteArray) (a1 n : Int) (w : World) (hr : Kd.C Kd.string w A l.length l) (hc : l.length ≤ c) (h : rec_Count.f a1 = some n) (hn : ¬ n = (l.length : Int)) :
    Calls Try.prog 56 #[.slice A l.length c, .int .i64 a1] w fun e w' => e = .returned (.tuple #[.string ⟨#[]⟩, .bool false]) ∧ Below w.heap.size w w' := by
  have HR := Aside0.mk hr
  have HC := Aside0.mk h
  have d0 : (n != (l.length : Int)) = true := bne_iff_ne.mpr hn
  have d1 : (n == (l.length : Int)) = false := beq_eq_false_iff_ne.mpr hn
  clear hr h hn
  go_enter Try.func56, Try.ntmps56
  go_wp2_with (go_at_call 43; (with_reducible refine (rec_Count.calls a1 n _ HC.out).mono ?_); rintro e w' ⟨rfl, ⟨nd, rfl⟩⟩)
  go_ret2
  exact ⟨rfl, pw_below_drewN (Below.refl _ _) nd⟩
set_option maxHeartbeats 4000000 in
set_option maxRecDepth 100000 in
theorem join_odd (A : Option Addr) (c : Nat) (l : List ByteArray) (a1 n : Int) (w : World) (hr : Kd.C Kd.string w A l.length l) (hc : l.length ≤ c) (h : rec_Count.f a1 = some n) (hn : n = (l.length : Int)) (ho : odd32 l = true) :
    Calls Try.prog 56 #[.slice A l.length c, .int .i64 a1] w fun e w' => e = .returned (.tuple #[.string ⟨#[]⟩, .bool false]) ∧ Below w.heap.size w w' := by
  have HR := Aside0.mk hr
  have HC := Aside0.mk h
  have HO := Aside0.mk ho
  have d0 : (n != (l.length : Int)) = false := bne_eq_false_iff_eq.mpr hn
  have d1 : (n == (l.length : Int)) = true := beq_iff_eq.mpr hn
  clear hr h hn ho
  go_enter Try.func56, Try.ntmps56
  go_wp2_with (first
    | (go_at_call 43; (with_reducible refine (rec_Count.calls a1 n _ HC.out).mono ?_); rintro e w' ⟨rfl, ⟨nd, rfl⟩⟩)
    | (go_at_call 73; refine (contains_odd A c l _ (Kd.C_drewN HR.out nd)).mono ?_; rintro e w' ⟨rfl, ⟨nd2, rfl⟩⟩; rw [HO.out]))
  go_ret2
  exact ⟨rfl, pw_below_drewN (Below.refl _ _) (nd + nd2)⟩
end Go.Proofs.Ythoddglnfdmdeaa.P
namespace Go.Proofs.Ythoddglnfdmdeaa.P
open Go.RowKit Go.Proofs.YthoddglnfdmdeaaW.PrintWords Go.Proofs.YthoddglnfdmdeaaW.PrintLast Go.Proofs.YthoddglnfdmdeaaW.PrintMore
attribute [local go_sem] max2_int min2_int max_two min_two max_three min_three max_four min_four
set_option linter.unusedVariables false
set_option linter.unusedSimpArgs false
/-- Is write i kept? -/
def keptB (keep : List Bool) (i : Nat) : Bool := decide (i < keep.length) && keep.getD i false
def disk_Flush.f (l0_0 : List ByteArray) (l0_1 : List (S29)) : Option (List ByteArray × (List (S29)) × Int) := if mayB l0_0 l0_1 = true then some (wrt (fun _ => true) 0 l0_1 l0_0, ([] : List (S29)), 0) else some (l0_0, l0_1, 1)
set_option maxHeartbeats 8000000 in
set_option maxRecDepth 100000 in
theorem disk_Flush.calls (P0_0_ : Nat → Prop) (A0_0 : Option Addr) (c0_0 : Nat) (l0_0 : List ByteArray) (P0_1_ : Nat → Prop) (A0_1 : Option Addr) (c0_1 : Nat) (l0_1 : List (S29)) (r1 : List ByteArray) (r2 : List (S29)) (r3 : Int) (w : World) (hs0_0 : Kd.V Kd.string 9 w w.heap.size (fun k_ => P0_0_ k_) (.slice A0_0 l0_0.length c0_0) l0_0) (hs0_1 : Kd.V k29 29 w w.heap.size (fun k_ => P0_1_ k_) (.slice A0_1 l0_1.length c0_1) l0_1) (h : disk_Flush.f l0_0 l0_1 = some (r1, r2, r3)) :
    Calls Try.prog 39 #[.agg #[.slice A0_0 l0_0.length c0_0, .slice A0_1 l0_1.length c0_1]] w fun e w' => ∃ v0_ v1_ : Value, e = .returned (.tuple #[.agg #[v0_, v1_], .int .i64 r3]) ∧ Kd.V Kd.string 9 w' w.heap.size (fun k_ => ((P0_0_ k_ ∨ P0_1_ k_) ∨ w.heap.size ≤ k_)) v0_ r1 ∧ Kd.V k29 29 w' w.heap.size (fun k_ => ((P0_0_ k_ ∨ P0_1_ k_) ∨ w.heap.size ≤ k_)) v1_ r2 ∧ Below w.heap.size w w' := by
  have HS0 := Aside0.mk hs0_0
  have HS1 := Aside0.mk hs0_1
  have HB := Aside0.mk (Below.refl w.heap.size w)
  have hu25 := Try.underlying25
  unfold disk_Flush.f at h
  clear hs0_0 hs0_1
  by_cases hm : mayB l0_0 l0_1 = true
  · rw [if_pos hm] at h
    simp only [Option.some.injEq, Prod.mk.injEq] at h
    obtain ⟨rfl, rfl, rfl⟩ := h
    have HM := Aside0.mk hm
    clear hm
    go_enter Try.func39, Try.ntmps39
    go_wp2_with (first
      | ((with_reducible refine gate_dst (N := 1) rfl ?_); refine box_event ?hg (N := 1) ?hd (cs := #[.slice A0_0 l0_0.length c0_0, .slice A0_1 l0_1.length c0_1]) (t := 25) ?hr ?_; (case hd => rfl); (case hg => rfl); (case hr => first | (go_simp; done) | (go_simp; rfl)); intro gb1 hg wgb1 hbox hb; have GEgb1 := Aside0.mk ((by rw [hg]; exact below_size HB.out) : w.heap.size ≤ gb1); replace HB := Aside0.mk (below_step HB.out hb); have BKgb1 := Aside0.mk hbox; clear hb hbox hg)
      | ((with_reducible refine gate_dst (N := 2) rfl ?_); refine box_event ?hg (N := 2) ?hd (cs := #[.slice none 0 0, .slice none 0 0]) (t := 25) ?hr ?_; (case hd => rfl); (case hg => rfl); (case hr => first | (go_simp; done) | (go_simp; rfl)); intro gb4 hg wgb4 hbox hb; have GEgb4 := Aside0.mk ((by rw [hg]; exact below_size HB.out) : w.heap.size ≤ gb4); have NEgb1gb4 := Aside0.mk (by rw [hg]; exact Nat.ne_of_lt (blk_lt BKgb1.out) : gb1 ≠ gb4); replace BKgb1 := Aside0.mk (blk_below BKgb1.out hb); replace HB := Aside0.mk (below_step HB.out hb); have BKgb4 := Aside0.mk hbox; clear hb hbox hg; have hczgb1_0 : _ = some ((.slice A0_0 l0_0.length c0_0 : Value)) := (blk_cell BKgb1.out 0).trans rfl; have hczgb1_1 : _ = some ((.slice A0_1 l0_1.length c0_1 : Value)) := (blk_cell BKgb1.out 1).trans rfl; have hfzgb1_0 := blk_frozen BKgb1.out 0; have hfzgb1_1 := blk_frozen BKgb1.out 1)
      | (go_at_call 47; refine (done_f (fun _ => true) _ _ l0_0 _ _ l0_1 _ (Kd.C_below (Kd.F_now (Kd.V_F HS0.out)) HB.out) (Kd.V_reads' HS0.out).2.1 (Kd.C_below (Kd.F_now (Kd.V_F HS1.out)) HB.out) (Kd.V_reads' HS1.out).2.1 (fun i W _ _ => flush1_any (i : Int) W) HM.out).mono ?_; rintro e w5 ⟨v0, rfl, ho, hb⟩; obtain ⟨A5, c5, e5⟩ := Kd.R_slice ho; subst e5; have HO := Aside0.mk (Kd.R_V (base' := w.heap.size) (Kd.R_bound ho)); have HG := Aside0.mk (below_size HB.out); have HL4 := Aside0.mk (blk_lt BKgb4.out); replace BKgb4 := Aside0.mk (blk_below BKgb4.out hb); replace HB := Aside0.mk (below_step HB.out hb); have hczgb4_0 : _ = some ((.slice none 0 0 : Value)) := (blk_cell BKgb4.out 0).trans rfl; have hczgb4_1 : _ = some ((.slice none 0 0 : Value)) := (blk_cell BKgb4.out 1).trans rfl; have hfzgb4_0 := blk_frozen BKgb4.out 0; have hfzgb4_1 := blk_frozen BKgb4.out 1; clear ho hb))
    refine bodyPost_ret (results_ct rfl _ _ gb4 25 #[.slice A5 _ c5, .slice none 0 0] (0, 0) _ rfl (blk_put (blk_put BKgb4.out 0 _ rfl) 1 _ rfl) Try.underlying25 rfl (by kernel_rfl)) rfl ?_
    refine ⟨_, _, rfl, ?_, Kd.V_nil _ _ _ _ _, below_set (below_set HB.out GEgb4.out) GEgb4.out⟩
    exact Kd.V_mono (Kd.V_far (p := ⟨gb4, 1, none⟩) (Kd.V_far (p := ⟨gb4, 0, none⟩) (Kd.V_mono (ok' := fun k => wgb4.heap.size ≤ k) HO.out (fun k hk => hk.2.1)) (fun k hk => fun e_ => by have := HL4.out; have hk' : wgb4.heap.size ≤ k := hk; simp at e_; omega) _) (fun k hk => fun e_ => by have := HL4.out; have hk' : wgb4.heap.size ≤ k := hk; simp at e_; omega) _) (fun k hk => .inr (Nat.le_trans HG.out hk))
  · rw [if_neg hm] at h
    simp only [Option.some.injEq, Prod.mk.injEq] at h
    obtain ⟨rfl, rfl, rfl⟩ := h
    replace hm := Bool.eq_false_iff.mpr hm
    have HM := Aside0.mk hm
    clear hm
    go_enter Try.func39, Try.ntmps39
    go_wp2_with (first
      | ((with_reducible refine gate_dst (N := 1) rfl ?_); refine box_event ?hg (N := 1) ?hd (cs := #[.slice A0_0 l0_0.length c0_0, .slice A0_1 l0_1.length c0_1]) (t := 25) ?hr ?_; (case hd => rfl); (case hg => rfl); (case hr => first | (go_simp; done) | (go_simp; rfl)); intro gb1 hg wgb1 hbox hb; have GEgb1 := Aside0.mk ((by rw [hg]; exact below_size HB.out) : w.heap.size ≤ gb1); replace HB := Aside0.mk (below_step HB.out hb); have BKgb1 := Aside0.mk hbox; clear hb hbox hg)
      | ((with_reducible refine gate_dst (N := 2) rfl ?_); refine box_event ?hg (N := 2) ?hd (cs := #[.slice none 0 0, .slice none 0 0]) (t := 25) ?hr ?_; (case hd => rfl); (case hg => rfl); (case hr => first | (go_simp; done) | (go_simp; rfl)); intro gb4 hg wgb4 hbox hb; have GEgb4 := Aside0.mk ((by rw [hg]; exact below_size HB.out) : w.heap.size ≤ gb4); have NEgb1gb4 := Aside0.mk (by rw [hg]; exact Nat.ne_of_lt (blk_lt BKgb1.out) : gb1 ≠ gb4); replace BKgb1 := Aside0.mk (blk_below BKgb1.out hb); replace HB := Aside0.mk (below_step HB.out hb); have BKgb4 := Aside0.mk hbox; clear hb hbox hg; have hczgb1_0 : _ = some ((.slice A0_0 l0_0.length c0_0 : Value)) := (blk_cell BKgb1.out 0).trans rfl; have hczgb1_1 : _ = some ((.slice A0_1 l0_1.length c0_1 : Value)) := (blk_cell BKgb1.out 1).trans rfl; have hfzgb1_0 := blk_frozen BKgb1.out 0; have hfzgb1_1 := blk_frozen BKgb1.out 1)
      | (go_at_call 47; refine (done_ef _ _ l0_0 _ _ l0_1 _ (Kd.C_below (Kd.F_now (Kd.V_F HS0.out)) HB.out) (Kd.V_reads' HS0.out).2.1 (Kd.C_below (Kd.F_now (Kd.V_F HS1.out)) HB.out) (Kd.V_reads' HS1.out).2.1 HM.out).mono ?_; rintro e w5 ⟨rfl, hb⟩; replace BKgb4 := Aside0.mk (blk_below BKgb4.out hb); replace HB := Aside0.mk (below_step HB.out hb); have hczgb4_0 : _ = some ((.slice none 0 0 : Value)) := (blk_cell BKgb4.out 0).trans rfl; have hczgb4_1 : _ = some ((.slice none 0 0 : Value)) := (blk_cell BKgb4.out 1).trans rfl; have hfzgb4_0 := blk_frozen BKgb4.out 0; have hfzgb4_1 := blk_frozen BKgb4.out 1; clear hb))
    refine bodyPost_ret (results_ct rfl _ _ gb4 25 #[.slice A0_0 l0_0.length c0_0, .slice A0_1 l0_1.length c0_1] (0, 0) _ rfl (blk_put (blk_put BKgb4.out 0 _ rfl) 1 _ rfl) Try.underlying25 rfl (by kernel_rfl)) rfl ?_
    exact ⟨_, _, rfl, Kd.V_mono (Kd.V_below HS0.out (below_set (below_set HB.out GEgb4.out) GEgb4.out)) (fun k hk => .inl (.inl hk)), Kd.V_mono (Kd.V_below HS1.out (below_set (below_set HB.out GEgb4.out) GEgb4.out)) (fun k hk => .inl (.inr hk)), below_set (below_set HB.out GEgb4.out) GEgb4.out⟩
def disk_Crash.f (l0_0 : List ByteArray) (l0_1 : List (S29)) (l1 : List Bool) : Option (List ByteArray × (List (S29)) × Int) := if mayB l0_0 l0_1 = true then some (wrt (keptB l1) 0 l0_1 l0_0, ([] : List (S29)), 0) else some (l0_0, l0_1, 1)
end Go.Proofs.Ythoddglnfdmdeaa.P
namespace Go.Proofs.Ythoddglnfdmdeaa.P
open Go.RowKit Go.Proofs.YthoddglnfdmdeaaW.PrintWords Go.Proofs.YthoddglnfdmdeaaW.PrintLast Go.Proofs.YthoddglnfdmdeaaW.PrintMore Go.Proofs.Ythoddglnfdmdeaa.Rg
attribute [local go_sem] Oper.semAt_some
set_option linter.unusedVariables false
set_option linter.unusedSimpArgs false
set_option maxHeartbeats 4000000 in
set_option maxRecDepth 100000 in
theorem backward_calls (A1 : Option Addr) (n c1 : Nat) (w : World) : Calls Try.prog 70 #[.slice A1 n c1] w fun e w' =>
    e = .returned (.func (.func 82) #[] #[.pointer (some ⟨w.heap.size, 0, none⟩)]) ∧ w' = w.alloc (.cells #[.slice A1 n c1] 23) := by
  go_enter Try.func70, Try.ntmps70
  have hmf : ∀ (fn : Fn) (first cap : Array Value) (w : World), (Instr.makeFunc fn first cap).run Try.prog w = .ok (.func fn first cap) w := fun _ _ _ _ => rfl
  go_wp2
  go_ret
  exact ⟨rfl, rfl⟩
/-- The last write of a place; z, if there is none. -/
def lastW (a : Int) : List S29 → ByteArray → ByteArray
  | [], z => z
  | x :: r, z => lastW a r (if x.f0 = a then x.f1 else z)
def getZ (s : List ByteArray) (c : List S29) (a : Int) : ByteArray × Int := if (mayB s c && (decide (0 ≤ a) && decide (a < (s.length : Int)))) = true then (lastW a c (rdOf ByteArray.empty s a), 0) else ((⟨#[]⟩ : ByteArray), 1)
theorem lastW_append (a : Int) : ∀ (l r : List S29) (z : ByteArray), lastW a (l ++ r) z = lastW a r (lastW a l z)
  | [], _, _ => rfl
  | x :: l, r, z => by rw [List.cons_append, lastW, lastW, lastW_append a l]
theorem rdW_get {c : List S29} {n : Nat} (h : n < c.length) : rd_T29 c (n : Int) = c[n] := by
  unfold rd_T29
  rw [Int.toNat_natCast, List.getD_eq_getElem?_getD, List.getElem?_eq_getElem h]; rfl
/-- What is found from behind is what was written last. -/
theorem back_last (a : Int) (c : List S29) (z : ByteArray) : ∀ (n : Nat), n ≤ c.length →
    (∀ pre x post, bk c n = pre ++ x :: post → (∀ p ∈ pre, p.2.f0 ≠ a) → x.2.f0 = a → lastW a (c.take n) z = x.2.f1) ∧ ((∀ p ∈ bk c n, p.2.f0 ≠ a) → lastW a (c.take n) z = z)
  | 0, _ => ⟨fun pre x post h => by rw [bk] at h; simp at h, fun _ => rfl⟩
  | n + 1, hn => by
    obtain ⟨ih1, ih2⟩ := back_last a c z n (by omega)
    have ht : c.take (n + 1) = c.take n ++ [rd_T29 c (n : Int)] := by rw [List.take_succ_eq_append_getElem (by omega), rdW_get (by omega)]
    rw [ht, lastW_append, lastW, lastW]
    refine ⟨fun pre x post h hp hx => ?_, fun h => ?_⟩
    · rw [bk] at h
      cases pre with
      | nil =>
        have h1 := (List.cons.inj h).1
        subst h1
        rw [if_pos hx]
      | cons p pre =>
        rw [List.cons_append] at h
        have h1 := (List.cons.inj h).1
        subst h1
        rw [if_neg (hp _ List.mem_cons_self)]
        exact ih1 pre x post (List.cons.inj h).2 (fun q hq => hp q (List.mem_cons_of_mem _ hq)) hx
    · rw [bk] at h
      rw [if_neg (h _ List.mem_cons_self)]
      exact ih2 (fun q hq => h q (List.mem_cons_of_mem _ hq))
theorem res_cc {tmps : Array Value} {W : World} {r1 r2 : Nat} {s : ByteArray} {i : Int} (h1 : tmps.getD 4 undef = .pointer (some ⟨r1, 0, none⟩)) (h2 : tmps.getD 5 undef = .pointer (some ⟨r2, 0, none⟩)) (g1 : W.cell? ⟨r1, 0, none⟩ = some (.string s)) (g2 : W.cell? ⟨r2, 0, none⟩ = some (.int .i64 i)) :
    (results Try.f52 tmps).run Try.prog W = .ok (.tuple #[.string s, .int .i64 i]) W := by
  have e : Try.f52.results = #[.cell 4 9, .cell 5 33] := rfl
  unfold results
  rw [e]
  simp only [List.mapM_toArray, Array.mapM_eq_mapM_toList, List.mapM_cons, List.mapM_nil, h1, h2]
  go_simp
def GetI (w : World) (A0 : Option Addr) (c0 : Nat) (s : List ByteArray) (A1 : Option Addr) (c1 : Nat) (c : List S29) (a : Int) (pre : List (Nat × S29)) (W : World) : Prop :=
  W.heap[w.heap.size]? = some (.cells #[.slice A0 s.length c0, .slice A1 c.length c1] 25 (0, 0)) ∧ W.heap[w.heap.size + 1]? = some (.cells #[.int .i64 a] 3 (0, 0)) ∧
  W.heap[w.heap.size + 2]? = some (.cells #[.string ⟨#[]⟩] 9 (0, 0)) ∧ W.heap[w.heap.size + 3]? = some (.cells #[.int .i64 0] 33 (0, 0)) ∧ Below w.heap.size w W ∧ ∀ p ∈ pre, p.2.f0 ≠ a
def GetX (w : World) (a : Int) (pre : List (Nat × S29)) (W : World) : Prop :=
  ∃ (p : List (Nat × S29)) (x : Nat × S29), pre = p ++ [x] ∧ (∀ q ∈ p, q.2.f0 ≠ a) ∧ x.2.f0 = a ∧
  W.heap[w.heap.size + 2]? = some (.cells #[.string x.2.f1] 9 (0, 0)) ∧ W.heap[w.heap.size + 3]? = some (.cells #[.int .i64 0] 33 (0, 0)) ∧ Below w.heap.size w W
theorem keeps_of_below {W W' : World} (hb : Below W.heap.size W W') : KeepsOthers W W' := ⟨hb.size, fun k o hk _ => (hb.block k (heap_lt hk)).trans hk⟩
theorem at4 (w : World) (o1 o2 o3 o4 : Obj) : ((((w.alloc o1).alloc o2).alloc o3).alloc o4).heap[w.heap.size]? = some o1 ∧ ((((w.alloc o1).alloc o2).alloc o3).alloc o4).heap[w.heap.size + 1]? = some o2 ∧
    ((((w.alloc o1).alloc o2).alloc o3).alloc o4).heap[w.heap.size + 2]? = some o3 ∧ ((((w.alloc o1).alloc o2).alloc o3).alloc o4).heap[w.heap.size + 3]? = some o4 := by
  refine ⟨blk_alloc (blk_alloc (blk_alloc (blk_new w _) _) _) _, blk_alloc (blk_alloc ?_ _) _, blk_alloc ?_ _, ?_⟩
  · have := blk_new (w.alloc o1) o2; rwa [World.size_alloc] at this
  · have := blk_new ((w.alloc o1).alloc o2) o3; rwa [World.size_alloc, World.size_alloc] at this
  · have := blk_new (((w.alloc o1).alloc o2).alloc o3) o4; rwa [World.size_alloc, World.size_alloc, World.size_alloc] at this
theorem below4 (w : World) (o1 o2 o3 o4 : Obj) : Below w.heap.size w ((((w.alloc o1).alloc o2).alloc o3).alloc o4) := ((((Below.refl _ w).alloc (Nat.le_refl _) _).alloc (by simp) _).alloc (by simp; omega) _).alloc (by simp; omega) _
set_option maxHeartbeats 8000000 in
set_option maxRecDepth 100000 in
theorem get_n1 (A0 : Option Addr) (c0 : Nat) (s : List ByteArray) (A1 : Option Addr) (c1 : Nat) (c : List S29) (a : Int) (w : World) (h0 : Kd.C Kd.string w A0 s.length s) (g0 : s.length ≤ c0) (h1 : Kd.C k29 w A1 c.length c) (g1 : c.length ≤ c1) (hm : mayB s c = false) :
    Calls Try.prog 52 #[.agg #[.slice A0 s.length c0, .slice A1 c.length c1], .int .i64 a] w fun e w' => e = .returned (.tuple #[.string ⟨#[]⟩, .int .i64 1]) ∧ Below w.heap.size w w' := by
  have HM := Aside0.mk hm
  clear hm
  have H0 := Aside0.mk h0
  have G0 := Aside0.mk g0
  have H1 := Aside0.mk h1
  have G1 := Aside0.mk g1
  clear h0 g0 h1 g1
  have hu25 := Try.underlying25
  have hu27 := Try.underlying29
  refine (callsIn_wide (n := 3)).1 ?_
  refine callsIn_of_wp_marks Try.func52 rfl trivial ?_ rfl
  simp only [Try.ntmps52, List.size_toArray, List.length_cons, List.length_nil, Nat.reduceAdd, Nat.reduceSub, Array.replicate_succ, Array.replicate_zero, List.push_toArray, List.append_toArray, List.nil_append, List.cons_append]
  gi_wp2_with (fail)
  obtain ⟨b0, b1, b2, b3⟩ := at4 w (.cells #[.slice A0 s.length c0, .slice A1 c.length c1] 25) (.cells #[.int .i64 a] 3) (.cells #[.string ⟨#[]⟩] 9) (.cells #[.int .i64 0] 33)
  have hb4 := below4 w (.cells #[.slice A0 s.length c0, .slice A1 c.length c1] 25) (.cells #[.int .i64 a] 3) (.cells #[.string ⟨#[]⟩] 9) (.cells #[.int .i64 0] 33)
  generalize ((((w.alloc (.cells #[.slice A0 s.length c0, .slice A1 c.length c1] 25)).alloc (.cells #[.int .i64 a] 3)).alloc (.cells #[.string ⟨#[]⟩] 9)).alloc (.cells #[.int .i64 0] 33)) = W4 at *
  refine ⟨trivial, ?_⟩
  refine (callsIn_wide.2 (may_any A0 c0 s A1 c1 c _ (Kd.C_below H0.out hb4) G0.out (Kd.C_below H1.out hb4) G1.out)).mono ?_
  rintro e w5 ⟨rfl, hb⟩
  rw [HM.out]
  have B0 := Aside0.mk (blk_below b0 hb)
  have B1 := Aside0.mk (blk_below b1 hb)
  have B2 := Aside0.mk (blk_below b2 hb)
  have B3 := Aside0.mk (blk_below b3 hb)
  have HB := Aside0.mk (below_step hb4 hb)
  clear b0 b1 b2 b3 hb4 hb
  have k0 : w5.cell? ⟨w.heap.size, 0, none⟩ = some (.slice A0 s.length c0) := (blk_cell B0.out 0).trans rfl
  have k1 : w5.cell? ⟨w.heap.size, 1, none⟩ = some (.slice A1 c.length c1) := (blk_cell B0.out 1).trans rfl
  have k2 : w5.cell? ⟨w.heap.size + 1, 0, none⟩ = some (.int .i64 a) := (blk_cell B1.out 0).trans rfl
  have k3 : w5.cell? ⟨w.heap.size + 1 + 1, 0, none⟩ = some (.string ⟨#[]⟩) := (blk_cell B2.out 0).trans rfl
  have k4 : w5.cell? ⟨w.heap.size + 1 + 1 + 1, 0, none⟩ = some (.int .i64 0) := (blk_cell B3.out 0).trans rfl
  have f3 := blk_frozen B2.out 0
  have f4 := blk_frozen B3.out 0
  gi_wp2_with (fail)
  refine ⟨trivial, ?_⟩
  gi_wp2_with (fail)
  exact ⟨_, res_cc (r1 := w.heap.size + 1 + 1) (r2 := w.heap.size + 1 + 1 + 1) (s := ⟨#[]⟩) (i := 1) rfl rfl (blk_cell (blk_far (blk_put B2.out 0 (.string ⟨#[]⟩) rfl) (p := ⟨w.heap.size + 1 + 1 + 1, 0, none⟩) (by simp) _) 0) (blk_cell (blk_put (blk_far B3.out (p := ⟨w.heap.size + 1 + 1, 0, none⟩) (by simp) _) 0 (.int .i64 1) rfl) 0), rfl, below_set (below_set HB.out (by omega)) (by omega)⟩
set_option maxHeartbeats 8000000 in
set_option maxRecDepth 100000 in
theorem get_n2 (A0 : Option Addr) (c0 : Nat) (s : List ByteArray) (A1 : Option Addr) (c1 : Nat) (c : List S29) (a : Int) (w : World) (h0 : Kd.C Kd.string w A0 s.length s) (g0 : s.length ≤ c0) (h1 : Kd.C k29 w A1 c.length c) (g1 : c.length ≤ c1) (hm : mayB s c = true) (hi : (decide (0 ≤ a) && decide (a < (s.length : Int))) = false) :
    Calls Try.prog 52 #[.agg #[.slice A0 s.length c0, .slice A1 c.length c1], .int .i64 a] w fun e w' => e = .returned (.tuple #[.string ⟨#[]⟩, .int .i64 1]) ∧ Below w.heap.size w w' := by
  have HM := Aside0.mk hm
  have HI := Aside0.mk hi
  clear hm hi
  have H0 := Aside0.mk h0
  have G0 := Aside0.mk g0
  have H1 := Aside0.mk h1
  have G1 := Aside0.mk g1
  clear h0 g0 h1 g1
  have hu25 := Try.underlying25
  have hu27 := Try.underlying29
  refine (callsIn_wide (n := 3)).1 ?_
  refine callsIn_of_wp_marks Try.func52 rfl trivial ?_ rfl
  simp only [Try.ntmps52, List.size_toArray, List.length_cons, List.length_nil, Nat.reduceAdd, Nat.reduceSub, Array.replicate_succ, Array.replicate_zero, List.push_toArray, List.append_toArray, List.nil_append, List.cons_append]
  gi_wp2_with (fail)
  obtain ⟨b0, b1, b2, b3⟩ := at4 w (.cells #[.slice A0 s.length c0, .slice A1 c.length c1] 25) (.cells #[.int .i64 a] 3) (.cells #[.string ⟨#[]⟩] 9) (.cells #[.int .i64 0] 33)
  have hb4 := below4 w (.cells #[.slice A0 s.length c0, .slice A1 c.length c1] 25) (.cells #[.int .i64 a] 3) (.cells #[.string ⟨#[]⟩] 9) (.cells #[.int .i64 0] 33)
  generalize ((((w.alloc (.cells #[.slice A0 s.length c0, .slice A1 c.length c1] 25)).alloc (.cells #[.int .i64 a] 3)).alloc (.cells #[.string ⟨#[]⟩] 9)).alloc (.cells #[.int .i64 0] 33)) = W4 at *
  refine ⟨trivial, ?_⟩
  refine (callsIn_wide.2 (may_any A0 c0 s A1 c1 c _ (Kd.C_below H0.out hb4) G0.out (Kd.C_below H1.out hb4) G1.out)).mono ?_
  rintro e w5 ⟨rfl, hb⟩
  rw [HM.out]
  have B0 := Aside0.mk (blk_below b0 hb)
  have B1 := Aside0.mk (blk_below b1 hb)
  have B2 := Aside0.mk (blk_below b2 hb)
  have B3 := Aside0.mk (blk_below b3 hb)
  have HB := Aside0.mk (below_step hb4 hb)
  clear b0 b1 b2 b3 hb4 hb
  have k0 : w5.cell? ⟨w.heap.size, 0, none⟩ = some (.slice A0 s.length c0) := (blk_cell B0.out 0).trans rfl
  have k1 : w5.cell? ⟨w.heap.size, 1, none⟩ = some (.slice A1 c.length c1) := (blk_cell B0.out 1).trans rfl
  have k2 : w5.cell? ⟨w.heap.size + 1, 0, none⟩ = some (.int .i64 a) := (blk_cell B1.out 0).trans rfl
  have k3 : w5.cell? ⟨w.heap.size + 1 + 1, 0, none⟩ = some (.string ⟨#[]⟩) := (blk_cell B2.out 0).trans rfl
  have k4 : w5.cell? ⟨w.heap.size + 1 + 1 + 1, 0, none⟩ = some (.int .i64 0) := (blk_cell B3.out 0).trans rfl
  have f3 := blk_frozen B2.out 0
  have f4 := blk_frozen B3.out 0
  gi_wp2_with (fail)
  refine ⟨trivial, ?_⟩
  refine (callsIn_wide.2 (is_any A0 c0 s A1 c1 c a _ (Kd.C_below H0.out HB.out) G0.out (Kd.C_below H1.out HB.out) G1.out)).mono ?_
  rintro e w6 ⟨rfl, hb⟩
  rw [HI.out]
  replace B0 := Aside0.mk (blk_below B0.out hb)
  replace B1 := Aside0.mk (blk_below B1.out hb)
  replace B2 := Aside0.mk (blk_below B2.out hb)
  replace B3 := Aside0.mk (blk_below B3.out hb)
  replace HB := Aside0.mk (below_step HB.out hb)
  clear hb k0 k1 k2 k3 k4 f3 f4
  have k0 : w6.cell? ⟨w.heap.size, 0, none⟩ = some (.slice A0 s.length c0) := (blk_cell B0.out 0).trans rfl
  have k1 : w6.cell? ⟨w.heap.size, 1, none⟩ = some (.slice A1 c.length c1) := (blk_cell B0.out 1).trans rfl
  have k2 : w6.cell? ⟨w.heap.size + 1, 0, none⟩ = some (.int .i64 a) := (blk_cell B1.out 0).trans rfl
  have k3 : w6.cell? ⟨w.heap.size + 1 + 1, 0, none⟩ = some (.string ⟨#[]⟩) := (blk_cell B2.out 0).trans rfl
  have k4 : w6.cell? ⟨w.heap.size + 1 + 1 + 1, 0, none⟩ = some (.int .i64 0) := (blk_cell B3.out 0).trans rfl
  have f3 := blk_frozen B2.out 0
  have f4 := blk_frozen B3.out 0
  gi_wp2_with (fail)
  exact ⟨_, res_cc (r1 := w.heap.size + 1 + 1) (r2 := w.heap.size + 1 + 1 + 1) (s := ⟨#[]⟩) (i := 1) rfl rfl (blk_cell (blk_far (blk_put B2.out 0 (.string ⟨#[]⟩) rfl) (p := ⟨w.heap.size + 1 + 1 + 1, 0, none⟩) (by simp) _) 0) (blk_cell (blk_put (blk_far B3.out (p := ⟨w.heap.size + 1 + 1, 0, none⟩) (by simp) _) 0 (.int .i64 1) rfl) 0), rfl, below_set (below_set HB.out (by omega)) (by omega)⟩
set_option maxHeartbeats 8000000 in
set_option maxRecDepth 100000 in
theorem get_y (A0 : Option Addr) (c0 : Nat) (s : List ByteArray) (A1 : Option Addr) (c1 : Nat) (c : List S29) (a : Int) (w : World) (h0 : Kd.C Kd.string w A0 s.length s) (g0 : s.length ≤ c0) (h1 : Kd.C k29 w A1 c.length c) (g1 : c.length ≤ c1) (hm : mayB s c = true) (hi : (decide (0 ≤ a) && decide (a < (s.length : Int))) = true) :
    Calls Try.prog 52 #[.agg #[.slice A0 s.length c0, .slice A1 c.length c1], .int .i64 a] w fun e w' => e = .returned (.tuple #[.string (lastW a c (rdOf ByteArray.empty s a)), .int .i64 0]) ∧ Below w.heap.size w w' := by
  have HM := Aside0.mk hm
  have HI := Aside0.mk hi
  clear hm hi
  have H0 := Aside0.mk h0
  have G0 := Aside0.mk g0
  have H1 := Aside0.mk h1
  have G1 := Aside0.mk g1
  clear h0 g0 h1 g1
  have hu25 := Try.underlying25
  have hu27 := Try.underlying29
  refine (callsIn_wide (n := 3)).1 ?_
  refine callsIn_of_wp_marks Try.func52 rfl trivial ?_ rfl
  simp only [Try.ntmps52, List.size_toArray, List.length_cons, List.length_nil, Nat.reduceAdd, Nat.reduceSub, Array.replicate_succ, Array.replicate_zero, List.push_toArray, List.append_toArray, List.nil_append, List.cons_append]
  gi_wp2_with (fail)
  obtain ⟨b0, b1, b2, b3⟩ := at4 w (.cells #[.slice A0 s.length c0, .slice A1 c.length c1] 25) (.cells #[.int .i64 a] 3) (.cells #[.string ⟨#[]⟩] 9) (.cells #[.int .i64 0] 33)
  have hb4 := below4 w (.cells #[.slice A0 s.length c0, .slice A1 c.length c1] 25) (.cells #[.int .i64 a] 3) (.cells #[.string ⟨#[]⟩] 9) (.cells #[.int .i64 0] 33)
  generalize ((((w.alloc (.cells #[.slice A0 s.length c0, .slice A1 c.length c1] 25)).alloc (.cells #[.int .i64 a] 3)).alloc (.cells #[.string ⟨#[]⟩] 9)).alloc (.cells #[.int .i64 0] 33)) = W4 at *
  refine ⟨trivial, ?_⟩
  refine (callsIn_wide.2 (may_any A0 c0 s A1 c1 c _ (Kd.C_below H0.out hb4) G0.out (Kd.C_below H1.out hb4) G1.out)).mono ?_
  rintro e w5 ⟨rfl, hb⟩
  rw [HM.out]
  have B0 := Aside0.mk (blk_below b0 hb)
  have B1 := Aside0.mk (blk_below b1 hb)
  have B2 := Aside0.mk (blk_below b2 hb)
  have B3 := Aside0.mk (blk_below b3 hb)
  have HB := Aside0.mk (below_step hb4 hb)
  clear b0 b1 b2 b3 hb4 hb
  have k0 : w5.cell? ⟨w.heap.size, 0, none⟩ = some (.slice A0 s.length c0) := (blk_cell B0.out 0).trans rfl
  have k1 : w5.cell? ⟨w.heap.size, 1, none⟩ = some (.slice A1 c.length c1) := (blk_cell B0.out 1).trans rfl
  have k2 : w5.cell? ⟨w.heap.size + 1, 0, none⟩ = some (.int .i64 a) := (blk_cell B1.out 0).trans rfl
  have k3 : w5.cell? ⟨w.heap.size + 1 + 1, 0, none⟩ = some (.string ⟨#[]⟩) := (blk_cell B2.out 0).trans rfl
  have k4 : w5.cell? ⟨w.heap.size + 1 + 1 + 1, 0, none⟩ = some (.int .i64 0) := (blk_cell B3.out 0).trans rfl
  have f3 := blk_frozen B2.out 0
  have f4 := blk_frozen B3.out 0
  gi_wp2_with (fail)
  refine ⟨trivial, ?_⟩
  refine (callsIn_wide.2 (is_any A0 c0 s A1 c1 c a _ (Kd.C_below H0.out HB.out) G0.out (Kd.C_below H1.out HB.out) G1.out)).mono ?_
  rintro e w6 ⟨rfl, hb⟩
  rw [HI.out]
  replace B0 := Aside0.mk (blk_below B0.out hb)
  replace B1 := Aside0.mk (blk_below B1.out hb)
  replace B2 := Aside0.mk (blk_below B2.out hb)
  replace B3 := Aside0.mk (blk_below B3.out hb)
  replace HB := Aside0.mk (below_step HB.out hb)
  clear hb k0 k1 k2 k3 k4 f3 f4
  have k0 : w6.cell? ⟨w.heap.size, 0, none⟩ = some (.slice A0 s.length c0) := (blk_cell B0.out 0).trans rfl
  have k1 : w6.cell? ⟨w.heap.size, 1, none⟩ = some (.slice A1 c.length c1) := (blk_cell B0.out 1).trans rfl
  have k2 : w6.cell? ⟨w.heap.size + 1, 0, none⟩ = some (.int .i64 a) := (blk_cell B1.out 0).trans rfl
  have k3 : w6.cell? ⟨w.heap.size + 1 + 1, 0, none⟩ = some (.string ⟨#[]⟩) := (blk_cell B2.out 0).trans rfl
  have k4 : w6.cell? ⟨w.heap.size + 1 + 1 + 1, 0, none⟩ = some (.int .i64 0) := (blk_cell B3.out 0).trans rfl
  have f3 := blk_frozen B2.out 0
  have f4 := blk_frozen B3.out 0
  gi_wp2_with (refine ⟨trivial, ?_⟩; gi_at_call 70; refine (callsIn_wide.2 (backward_calls A1 c.length c1 _)).mono ?_; rintro e w' ⟨rfl, rfl⟩)
  have HN4 := Aside0.mk (show w.heap.size + 4 ≤ w6.heap.size from blk_lt B3.out)
  have E0 : GetI w A0 c0 s A1 c1 c a [] (w6.alloc (.cells #[.slice A1 c.length c1] 23)) := ⟨blk_alloc B0.out _, blk_alloc B1.out _, blk_alloc B2.out _, blk_alloc B3.out _, below_alloc HB.out _, fun _ h => by cases h⟩
  have hB : (w6.alloc (.cells #[.slice A1 c.length c1] 23)).heap[w6.heap.size]? = some (.cells #[.slice A1 c.length c1] 23 (0, 0)) := blk_new w6 _
  have HR : Kd.C k29 (w6.alloc (.cells #[.slice A1 c.length c1] 23)) A1 c.length c := Kd.C_alloc (Kd.C_below H1.out HB.out) _
  have Z0 : (w6.alloc (.cells #[.slice A1 c.length c1] 23)).heap.size = w6.heap.size + 1 := by simp
  have HN4' := HN4.out
  generalize w6.alloc (.cells #[.slice A1 c.length c1] 23) = W0 at *
  clear k0 k1 k2 k3 k4 f3 f4
  refine wp_range2 (n := 1) (gf := 82) rfl (enters_of Try.func82 (by kernel_rfl) rfl) (back_iter 1 w6.heap.size A1 c1 c W0 hB HR) (by omega) (fun k hk => hk) (fun _ => rfl)
    (GetI w A0 c0 s A1 c1 c a) (GetX w a)
    ⟨fun h hb => ⟨held_grow h.1 hb, held_grow h.2.1 hb, held_grow h.2.2.1 hb, held_grow h.2.2.2.1 hb, below_step h.2.2.2.2.1 hb, h.2.2.2.2.2⟩, fun v h => ⟨held_cell h.1 (by omega) v, held_cell h.2.1 (by omega) v, held_cell h.2.2.1 (by omega) v, held_cell h.2.2.2.1 (by omega) v, h.2.2.2.2.1.setCell (by simp; omega) v, h.2.2.2.2.2⟩⟩
    ⟨fun ⟨p, x, h1, h2, h3, h4, h5, h6⟩ hb => ⟨p, x, h1, h2, h3, held_grow h4 hb, held_grow h5 hb, below_step h6 hb⟩, fun v ⟨p, x, h1, h2, h3, h4, h5, h6⟩ => ⟨p, x, h1, h2, h3, held_cell h4 (by omega) v, held_cell h5 (by omega) v, h6.setCell (by simp; omega) v⟩⟩
    (fun k o hk h _ => ⟨(World.putObj_heap_other (by omega)).trans h.1, (World.putObj_heap_other (by omega)).trans h.2.1, (World.putObj_heap_other (by omega)).trans h.2.2.1, (World.putObj_heap_other (by omega)).trans h.2.2.2.1, put_below o h.2.2.2.2.1 (by omega), h.2.2.2.2.2⟩)
    (fun k o hk ⟨p, x, h1, h2, h3, h4, h5, h6⟩ _ => ⟨p, x, h1, h2, h3, (World.putObj_heap_other (by omega)).trans h4, (World.putObj_heap_other (by omega)).trans h5, put_below o h6 (by omega)⟩)
    E0 (fun x a1 W => ∃ g, W0.heap.size + 2 ≤ g ∧ W.heap[g]? = some (.cells #[.int .i64 x.2.f0, .string x.2.f1] 29 (0, 0)) ∧ a1 = { tmps := #[.agg #[.slice A0 s.length c0, .slice A1 c.length c1], .int .i64 a, .pointer (some ⟨w.heap.size, 0, none⟩), .pointer (some ⟨w.heap.size + 1, 0, none⟩), .pointer (some ⟨w.heap.size + 1 + 1, 0, none⟩), .pointer (some ⟨w.heap.size + 1 + 1 + 1, 0, none⟩), undef, .pointer (some ⟨g, 0, none⟩), .agg #[.slice A0 s.length c0, .slice A1 c.length c1], .bool true, .bool false, .bool false, .agg #[.slice A0 s.length c0, .slice A1 c.length c1], .int .i64 a, .bool true, .bool false, .bool false, .pointer (some ⟨w.heap.size, 1, none⟩), .slice A1 c.length c1, .func (.func 82) #[] #[.pointer (some ⟨w6.heap.size, 0, none⟩)], .int .i64 (x.1 : Int), .agg #[.int .i64 x.2.f0, .string x.2.f1], undef, undef, undef, undef, undef, undef, undef, undef, undef, undef, undef], defers := [] })
    (fun k o hk ⟨g, h1, h2, h3⟩ => ⟨g, h1, (World.putObj_heap_other (by omega)).trans h2, h3⟩)
    (fun W hb => Eld.below hb) ?assign ?body ?done ?stop
  case assign =>
    intro l x W K hsz hK
    unfold encW
    gi_wp2
    exact hK _ _ (below_alloc (Below.refl _ _) _) ⟨W.heap.size, hsz, blk_new W _, rfl⟩
  case body =>
    rintro l pre x post a1 W hx hI ⟨g, hg, hbk, rfl⟩
    have k2 : W.cell? ⟨w.heap.size + 1, 0, none⟩ = some (.int .i64 a) := (blk_cell hI.2.1 0).trans rfl
    have k3 : W.cell? ⟨w.heap.size + 1 + 1, 0, none⟩ = some (.string ⟨#[]⟩) := (blk_cell hI.2.2.1 0).trans rfl
    have k4 : W.cell? ⟨w.heap.size + 1 + 1 + 1, 0, none⟩ = some (.int .i64 0) := (blk_cell hI.2.2.2.1 0).trans rfl
    have f3 := blk_frozen hI.2.2.1 0
    have f4 := blk_frozen hI.2.2.2.1 0
    have k5 : W.cell? ⟨g, 0, none⟩ = some (.int .i64 x.2.f0) := (blk_cell hbk 0).trans rfl
    have k6 : W.cell? ⟨g, 1, none⟩ = some (.string x.2.f1) := (blk_cell hbk 1).trans rfl
    replace hI := Aside0.mk hI
    replace hx := Aside0.mk hx
    clear E0 hB HR Z0 HN4' hbk hg
    by_cases e : x.2.f0 = a
    · have E := Aside0.mk e
      have e1 : (x.2.f0 == a) = true := beq_iff_eq.2 e
      clear e
      gi_wp2
      refine ⟨(KeepsOthers.setCell _ _ _).trans (KeepsOthers.setCell _ _ _), pre, x, rfl, hI.out.2.2.2.2.2, E.out, ?_, ?_, below_set (below_set hI.out.2.2.2.2.1 (by omega)) (by omega)⟩
      · exact blk_far (blk_put hI.out.2.2.1 0 (.string x.2.f1) rfl) (p := ⟨w.heap.size + 1 + 1 + 1, 0, none⟩) (by simp) _
      · exact blk_put (blk_far hI.out.2.2.2.1 (p := ⟨w.heap.size + 1 + 1, 0, none⟩) (by simp) _) 0 (.int .i64 0) rfl
    · have E := Aside0.mk e
      have e1 : (x.2.f0 == a) = false := beq_eq_false_iff_ne.2 e
      clear e
      gi_wp2
      exact ⟨keeps_of_below (Below.refl _ _), fun _ _ => rfl, hI.out.1, hI.out.2.1, hI.out.2.2.1, hI.out.2.2.2.1, hI.out.2.2.2.2.1, fun p hp => (List.mem_append.1 hp).elim (hI.out.2.2.2.2.2 p) (fun h => by obtain rfl := List.mem_singleton.1 h; exact E.out)⟩
  case done =>
    intro D W hI hD hDl
    obtain ⟨p0, p1⟩ : 0 ≤ a ∧ a < (s.length : Int) := by simpa using HI.out
    obtain ⟨ad, e1, hx0⟩ := Kd.at_string (Kd.C_below H0.out hI.2.2.2.2.1) a p0 p1
    have hL : lastW a c (rdOf ByteArray.empty s a) = rdOf ByteArray.empty s a := by
      have h := (back_last a c (rdOf ByteArray.empty s a) c.length (Nat.le_refl _)).2 hI.2.2.2.2.2
      rwa [List.take_length] at h
    obtain ⟨z, hz⟩ : ∃ z, rdOf ByteArray.empty s a = z := ⟨_, rfl⟩
    have HL := Aside0.mk (hL.trans hz)
    rw [hz] at hx0
    clear hz
    subst e1
    have k0 : W.cell? ⟨w.heap.size, 0, none⟩ = some (.slice (some ad) s.length c0) := (blk_cell hI.1 0).trans rfl
    have k2 : W.cell? ⟨w.heap.size + 1, 0, none⟩ = some (.int .i64 a) := (blk_cell hI.2.1 0).trans rfl
    have k3 : W.cell? ⟨w.heap.size + 1 + 1, 0, none⟩ = some (.string ⟨#[]⟩) := (blk_cell hI.2.2.1 0).trans rfl
    have k4 : W.cell? ⟨w.heap.size + 1 + 1 + 1, 0, none⟩ = some (.int .i64 0) := (blk_cell hI.2.2.2.1 0).trans rfl
    have f3 := blk_frozen hI.2.2.1 0
    have f4 := blk_frozen hI.2.2.2.1 0
    replace hI := Aside0.mk hI
    replace hD := Aside0.mk hD
    replace hDl := Aside0.mk hDl
    clear hL E0 hB HR
    gi_wp2
    refine ⟨by simp, .inl ⟨_, _, rfl, run_takeDeferred (held_cell (held_cell hD.out (by have := hDl.out; omega) _) (by have := hDl.out; omega) _), ?_⟩⟩
    have b2 := blk_far (blk_put hI.out.2.2.1 0 (.string z) rfl) (p := ⟨w.heap.size + 1 + 1 + 1, 0, none⟩) (by simp) (.int .i64 0)
    have b3 := blk_put (blk_far hI.out.2.2.2.1 (p := ⟨w.heap.size + 1 + 1, 0, none⟩) (by simp) (.string z)) 0 (.int .i64 0) rfl
    exact ⟨_, res_cc (r1 := w.heap.size + 1 + 1) (r2 := w.heap.size + 1 + 1 + 1) (s := z) (i := 0) rfl rfl (blk_cell ((World.putObj_heap_other (by have := hDl.out; omega)).trans b2) 0) (blk_cell ((World.putObj_heap_other (by have := hDl.out; omega)).trans b3) 0), by rw [HL.out], put_below _ (below_set (below_set hI.out.2.2.2.2.1 (by omega)) (by omega)) (by have := hDl.out; omega)⟩
  case stop =>
    rintro D pre x post W hx ⟨p, y, he, hp, hy, b2, b3, hb⟩ hD hDl
    obtain ⟨rfl, rfl⟩ : pre = p ∧ x = y := by
      have h := List.append_inj' he rfl
      exact ⟨h.1, (List.cons.inj h.2).1⟩
    have HL := Aside0.mk (show lastW a c (rdOf ByteArray.empty s a) = x.2.f1 from by
      have h := (back_last a c (rdOf ByteArray.empty s a) c.length (Nat.le_refl _)).1 pre x post hx hp hy
      rwa [List.take_length] at h)
    have B2 := Aside0.mk b2
    have B3 := Aside0.mk b3
    have HBX := Aside0.mk hb
    replace hD := Aside0.mk hD
    replace hDl := Aside0.mk hDl
    clear b2 b3 hb he hp hy hx E0 hB HR
    gi_wp2
    refine ⟨by simp, .inl ⟨_, _, rfl, run_takeDeferred hD.out, ?_⟩⟩
    exact ⟨_, res_cc (r1 := w.heap.size + 1 + 1) (r2 := w.heap.size + 1 + 1 + 1) (s := x.2.f1) (i := 0) rfl rfl (blk_cell ((World.putObj_heap_other (by have := hDl.out; have := HN4.out; omega)).trans B2.out) 0) (blk_cell ((World.putObj_heap_other (by have := hDl.out; have := HN4.out; omega)).trans B3.out) 0), by rw [HL.out], put_below _ HBX.out (by have := hDl.out; have := HN4.out; omega)⟩
theorem get_any (A0 : Option Addr) (c0 : Nat) (s : List ByteArray) (A1 : Option Addr) (c1 : Nat) (c : List S29) (a : Int) (w : World) (h0 : Kd.C Kd.string w A0 s.length s) (g0 : s.length ≤ c0) (h1 : Kd.C k29 w A1 c.length c) (g1 : c.length ≤ c1) :
    Calls Try.prog 52 #[.agg #[.slice A0 s.length c0, .slice A1 c.length c1], .int .i64 a] w fun e w' => e = .returned (.tuple #[.string (getZ s c a).1, .int .i64 (getZ s c a).2]) ∧ Below w.heap.size w w' := by
  unfold getZ
  by_cases hm : mayB s c = true
  · by_cases hi : (decide (0 ≤ a) && decide (a < (s.length : Int))) = true
    · rw [if_pos (by rw [hm, hi]; rfl)]
      exact get_y A0 c0 s A1 c1 c a w h0 g0 h1 g1 hm hi
    · rw [if_neg (by rw [Bool.and_eq_true]; exact fun h => hi h.2)]
      exact get_n2 A0 c0 s A1 c1 c a w h0 g0 h1 g1 hm (Bool.eq_false_iff.mpr hi)
  · rw [if_neg (by rw [Bool.and_eq_true]; exact fun h => hm h.1)]
    exact get_n1 A0 c0 s A1 c1 c a w h0 g0 h1 g1 (Bool.eq_false_iff.mpr hm)
end Go.Proofs.Ythoddglnfdmdeaa.P
