/- The shelf's contracts of strings.Builder at this program: WriteString, String, and a builder's beginning. -/
import Derived.Test.YtnhhbmekjoanbaaDoorZFBH0
import Derived.Test.YtnhhbmekjoanbaaDoorZFBM0
import Derived.Shelf.Strings.BuilderK
import Derived.Lib.Bytealg
import Derived.Laws.Cover1
import Derived.Test.YtnhhbmekjoanbaaDoorZFBH1
import Derived.Outline
import Derived.Sort.AtCall
import Derived.RangeFuncNested
import Derived.Shelf.Abstract
import Derived.Shelf.RegionOpen
import Derived.OwnWalkIn
import Derived.TacticsInMore
import Derived.LoopNIn
import Derived.LoopIn
import Derived.Laws.IdiomCopy
import Derived.Lib.AppendZerosOnto
import Derived.Lib.Overlaps
import Derived.Shelf.AbstractIn
namespace Go.Proofs.YtnhhbmekjoanbaaDoor.P
open Go.RowKit Go.Shelf Go.Proofs.YtnhhbmekjoanbaaDoorW.PrintWords Go.Proofs.YtnhhbmekjoanbaaDoorW.PrintLast Go.Proofs.YtnhhbmekjoanbaaDoorW.PrintMore
set_option linter.unusedVariables false
def r166 : Go.Shelf.Ren := ⟨fun | 166 => 46 | 240 => 60 | 276 => 79 | n => n, fun | 37 => 68 | 70 => 67 | 72 => 70 | 75 => 72 | 80 => 78 | 164 => 112 | n => n, fun n => n⟩
theorem lays166 : Go.Proofs.Lays.n166 Tryd.prog r166 := {
  mixed := by kernel_rfl
  f166 := Tryd.func46.trans (congrArg some (by kernel_rfl))
  f240 := Tryd.func60.trans (congrArg some (by kernel_rfl))
  f276 := Tryd.func79.trans (congrArg some (by kernel_rfl))
  t0 := Tryd.underlying0
  a0 := Tryd.isAgg0
  z0 := Tryd.sizeOf0
  v0 := Tryd.zeroValue0
  t3 := Tryd.underlying3
  a3 := Tryd.isAgg3
  z3 := Tryd.sizeOf3
  v3 := Tryd.zeroValue3
  t4 := Tryd.underlying4
  a4 := Tryd.isAgg4
  z4 := Tryd.sizeOf4
  v4 := Tryd.zeroValue4
  t9 := Tryd.underlying9
  a9 := Tryd.isAgg9
  z9 := Tryd.sizeOf9
  v9 := Tryd.zeroValue9
  t20 := Tryd.underlying20
  a20 := Tryd.isAgg20
  z20 := Tryd.sizeOf20
  v20 := Tryd.zeroValue20
  t37 := Tryd.underlying68
  a37 := Tryd.isAgg68
  z37 := Tryd.sizeOf68
  v37 := Tryd.zeroValue68
  t70 := Tryd.underlying67
  a70 := Tryd.isAgg67
  z70 := Tryd.sizeOf67
  v70 := Tryd.zeroValue67
  t72 := Tryd.underlying70
  a72 := Tryd.isAgg70
  z72 := Tryd.sizeOf70
  v72 := Tryd.zeroValue70
  t75 := Tryd.underlying72
  a75 := Tryd.isAgg72
  z75 := Tryd.sizeOf72
  v75 := Tryd.zeroValue72
  t164 := Tryd.underlying112
  a164 := Tryd.isAgg112
  z164 := Tryd.sizeOf112
  v164 := Tryd.zeroValue112 }
theorem extra166 : Builder.Extra Tryd.prog r166 := {
  sizeBuilder := by kernel_rfl
  liesBuilder := by kernel_rfl
  t5 := Tryd.underlying5
  a5 := Tryd.isAgg5
  z5 := Tryd.sizeOf5
  v5 := Tryd.zeroValue5
  infoByte := by kernel_rfl
  cellsByte := by kernel_rfl
  sizeByte := by kernel_rfl
  neB5 := by decide }
theorem copyRow (B b : Nat) (bs : List Value) (w : World) (h : Lib.IsBuilderF 70 5 B b bs w) (g : Nat) (o : Obj) (hg : w.heap[g]? = some o) (hne : g ≠ b) :
    Calls Tryd.prog 60 #[.pointer (some ⟨b, 0, none⟩)] w fun e w' => e = .returned (.tuple #[]) ∧ (Lib.BuilderAtF 70 5 B b (.pointer (some ⟨b, 0, none⟩)) bs w' ∧ Below B w w' ∧ Lib.OthersKept 5 (some b) w w' ∧ w'.heap[g]? = some o) := by
  rcases h with h | h
  · refine (Any.Builder_copyCheck_fresh { lays166 with } extra166.toX72 b w h.cell0 h.shape h.frozen0).mono ?_
    rintro e w' ⟨rfl, rfl⟩
    exact ⟨rfl, h.used _, (Below.refl B w).setCell (p := ⟨b, 0, none⟩) h.1 _, (Lib.OthersKept.refl _ _ w).setCell ⟨b, 0, none⟩ rfl _, by rw [Below.heap_setCell _ _ _ _ (fun e => hne e)]; exact hg⟩
  · refine (Any.Builder_copyCheck_used { lays166 with } extra166.toX72 b w h.cell0).mono ?_
    rintro e w' ⟨rfl, rfl⟩
    exact ⟨rfl, h, Below.refl B _, Lib.OthersKept.refl _ _ _, hg⟩
set_option maxHeartbeats 2000000 in
set_option maxRecDepth 100000 in
theorem write2 (B b : Nat) (bs : List Value) (g c : Nat) (x y : Int) (w : World) (h : Lib.IsBuilderF 70 5 B b bs w) (hg : w.heap[g]? = some (.cells #[.int .u8 x, .int .u8 y] 5 (0, 0))) (hlen : bs.length + 2 ≤ 140737488355328) (hBw : B ≤ w.heap.size) :
    Calls Tryd.prog 45 #[.pointer (some ⟨b, 0, none⟩), .slice (some ⟨g, 0, none⟩) 2 c] w fun e w' => e = .returned (.tuple #[.int .i64 2, .nilIface]) ∧ Lib.BuilderAtF 70 5 B b (.pointer (some ⟨b, 0, none⟩)) (bs ++ [.int .u8 x, .int .u8 y]) w' ∧ Below B w w' ∧ Lib.OthersKept 5 (some b) w w' := by
  have hgb : g ≠ b := by
    rintro rfl
    rcases h with h | h
    all_goals (
      obtain ⟨_, v, hv, _⟩ := h
      rw [hg] at hv
      exact absurd (Option.some.inj hv) (by simp))
  obtain ⟨i0, hi, hz0, hz1, hz2⟩ := info_parts extra166.infoByte
  have L := lays166
  go_enter Tryd.func45, Tryd.ntmps45
  go_wp2_with (go_at_call 60; refine (copyRow B b bs _ h g _ hg hgb).mono ?_)
  rintro e w1 ⟨rfl, h1, hb1, hk1, hg1⟩
  obtain ⟨hB, v, hbk, hown, hne⟩ := h1
  have c0 : w1.cell? ⟨b, 0, none⟩ = some (.pointer (some ⟨b, 0, none⟩)) := by rw [Lib.cell_of_heap hbk]; rfl
  have c1 : w1.cell? ⟨b, 1, none⟩ = some v := by rw [Lib.cell_of_heap hbk]; rfl
  go_wp2_with (at_builtin; refine wpList_append_ownF _ rfl _ _ 68 rfl B 5 i0 (.int .u8 0) 1 1 L.t37 hi hz0 hz1 hz2 rfl (by decide) _ _ _ rfl hown ⟨g, 0, none⟩ 2 c [.int .u8 x, .int .u8 y] rfl rfl ?c1 ?c2 ?c3 ?c4 ?c5 ?_)
  case c1 =>
    intro j u hj
    match j, hj with
    | 0, hj => simp at hj; subst hj; exact (Lib.cell_of_heap hg1 0).trans rfl
    | 1, hj => simp at hj; subst hj; exact (Lib.cell_of_heap hg1 1).trans rfl
  case c2 => intro u hu; simp at hu; rcases hu with rfl | rfl <;> rfl
  case c3 => unfold maxLen; omega
  case c4 => omega
  case c5 => have := hb1.size; omega
  intro v' w2 hown' hgrow _
  have hlt : b < w1.heap.size := by
    rcases Nat.lt_or_ge b w1.heap.size with h' | h'
    · exact h'
    · simp [Array.getElem?_eq_none h'] at hbk
  have hb2 : w2.heap[b]? = some (.cells #[.pointer (some ⟨b, 0, none⟩), v] 70 (0, 0)) := by
    rw [hgrow.block b hlt (fun e => hne e.symm)]
    exact hbk
  have d0 : w2.cell? ⟨b, 0, none⟩ = some (.pointer (some ⟨b, 0, none⟩)) := by rw [Lib.cell_of_heap hb2]; rfl
  have d1 : w2.cell? ⟨b, 1, none⟩ = some v := by rw [Lib.cell_of_heap hb2]; rfl
  have f1 : w2.frozen? ⟨b, 1, none⟩ = false := Lib.frozen_of_heap hb2 1
  obtain ⟨ao, n', cap, rfl⟩ : ∃ ao n' cap, v' = .slice ao n' cap := by
    rcases hown'.2 with ⟨hv, _⟩ | ⟨g, cap, cur, fz, hv, _⟩
    · exact ⟨_, _, _, hv⟩
    · exact ⟨_, _, _, hv⟩
  go_wp2
  go_ret2
  refine ⟨rfl, ?_, ?_, (hk1.grown hgrow (Lib.ownsRowF_kind hown)).setCell ⟨b, 1, none⟩ rfl _⟩
  · exact Lib.BuilderAtF.put (T := 70) (e := 5) hB hb2 (bs' := bs ++ [.int .u8 x, .int .u8 y]) (by simpa using hown') extra166.neB5
  · exact (hb1.grown hgrow (by have := hb1.size; omega) (fun k hk => (hown.lt k hk).1)).setCell (p := ⟨b, 1, none⟩) hB _
theorem cells_append (a b : ByteArray) : Lib.strCells (a ++ b) = Lib.strCells a ++ Lib.strCells b := by
  simp only [Lib.strCells, ByteArray.data_append, Array.toList_append, List.map_append]
/-- A builder that holds this text, in a block of its own. -/
def BldS (w0 : World) (g : Nat) (t : ByteArray) (w : World) : Prop := Lib.IsBuilderF 70 5 w0.heap.size g (Lib.strCells t) w ∧ Below w0.heap.size w0 w
theorem BldS.alloc {w0 w : World} {g : Nat} {t : ByteArray} (h : BldS w0 g t w) (o : Obj) : BldS w0 g t (w.alloc o) := ⟨h.1.alloc o, h.2.alloc h.2.size _⟩
theorem BldS.step {w0 w w' : World} {g : Nat} {t : ByteArray} (h : BldS w0 g t w) (hb : Below w.heap.size w w') : BldS w0 g t w' := by
  refine ⟨?_, h.2.trans (hb.mono h.2.size)⟩
  have go : ∀ p, Lib.BuilderAtF 70 5 w0.heap.size g p (Lib.strCells t) w → Lib.BuilderAtF 70 5 w0.heap.size g p (Lib.strCells t) w' := by
    rintro p ⟨hB, v, hv, ⟨hw1, hown⟩, hne⟩
    refine ⟨hB, v, (hb.block g (Array.getElem?_eq_some_iff.1 hv).1).trans hv, ⟨hw1, ?_⟩, hne⟩
    rcases hown with hn | ⟨g', cap, cur, fz, hv', hbg, hg, rest⟩
    · exact .inl hn
    · exact .inr ⟨g', cap, cur, fz, hv', hbg, (hb.block g' (Array.getElem?_eq_some_iff.1 hg).1).trans hg, rest⟩
  exact h.1.elim (fun x => Or.inl (go _ x)) (fun x => Or.inr (go _ x))
theorem BldS.text {w0 w : World} {g : Nat} {t : ByteArray} (h : BldS w0 g t w) (s : ByteArray) (hl : t.size + s.size ≤ 140737488355328) :
    Calls Tryd.prog 46 #[.pointer (some ⟨g, 0, none⟩), .string s] w fun e w' => (∃ n : Int, e = .returned (.tuple #[.int .i64 n, .nilIface])) ∧ Aside0 (BldS w0 g (t ++ s) w') ∧ Aside0 (Lib.OthersKept 5 (some g) w w') := by
  refine (Any.Builder_WriteString_k lays166 extra166 w0.heap.size g _ s w h.1 (by rw [Lib.strCells_length]; exact hl) h.2.size).mono ?_
  rintro e w' ⟨rfl, h1, h2, h3⟩
  exact ⟨⟨_, rfl⟩, ⟨⟨by rw [cells_append]; exact Or.inr h1, h.2.trans h2⟩⟩, ⟨h3⟩⟩
theorem BldS.two {w0 w : World} {g : Nat} {t : ByteArray} (h : BldS w0 g t w) (gr c : Nat) (x y : UInt8) (hg : w.heap[gr]? = some (.cells #[.int .u8 (x.toNat : Int), .int .u8 (y.toNat : Int)] 5 (0, 0))) (hl : t.size + 2 ≤ 140737488355328) :
    Calls Tryd.prog 45 #[.pointer (some ⟨g, 0, none⟩), .slice (some ⟨gr, 0, none⟩) 2 c] w fun e w' => (∃ n : Int, e = .returned (.tuple #[.int .i64 n, .nilIface])) ∧ Aside0 (BldS w0 g (t ++ ⟨#[x, y]⟩) w') ∧ Aside0 (Lib.OthersKept 5 (some g) w w') := by
  refine (write2 w0.heap.size g _ gr c x.toNat y.toNat w h.1 hg (by rw [Lib.strCells_length]; exact hl) h.2.size).mono ?_
  rintro e w' ⟨rfl, h1, h2, h3⟩
  exact ⟨⟨_, rfl⟩, ⟨⟨by rw [cells_append]; exact Or.inr h1, h.2.trans h2⟩⟩, ⟨h3⟩⟩
theorem BldS.len {w0 w : World} {g : Nat} {t : ByteArray} (h : BldS w0 g t w) :
    Calls Tryd.prog 47 #[.pointer (some ⟨g, 0, none⟩)] w fun e w' => e = .returned (.int .i64 (t.size : Int)) ∧ w' = w := by
  refine (Tryd.Builder_Len_f w0.heap.size g _ w h.1).mono ?_
  rintro e w' ⟨rfl, h2⟩
  exact ⟨by rw [Lib.strCells_length], h2⟩
theorem BldS.string {w0 w : World} {g : Nat} {t : ByteArray} (h : BldS w0 g t w) :
    Calls Tryd.prog 48 #[.pointer (some ⟨g, 0, none⟩)] w fun e w' => e = .returned (.string t) ∧ Aside0 (Below w0.heap.size w0 w') := by
  have h1 := h.1
  rw [Lib.strCells_eq] at h1
  refine (Tryd.Builder_String_any_k w0.heap.size g _ w h1 h.2.size).mono ?_
  rintro e w' ⟨rfl, _, h2, _⟩
  exact ⟨by rw [Array.toArray_toList], ⟨h.2.trans h2⟩⟩
/-- A fresh builder. -/
theorem BldS.new (w0 w : World) (hb : Below w0.heap.size w0 w) : BldS w0 w.heap.size ⟨#[]⟩ (w.alloc (.cells #[.pointer none, .slice none 0 0] 70 (0, 0))) :=
  ⟨.inl ⟨hb.size, .slice none 0 0, blk_new w _, ⟨by simp [Lib.strCells], .inl ⟨rfl, rfl⟩⟩, by simp [Value.ownBlock]⟩, hb.alloc hb.size _⟩
theorem BldS.lt {w0 w : World} {g : Nat} {t : ByteArray} (h : BldS w0 g t w) : g < w.heap.size := by
  rcases h.1 with ⟨_, v, hv, _⟩ | ⟨_, v, hv, _⟩
  · exact (Array.getElem?_eq_some_iff.1 hv).1
  · exact (Array.getElem?_eq_some_iff.1 hv).1
theorem u8_mod (n : Nat) : ((n : Int) % 256) = (n.toUInt8.toNat : Int) := by
  simp only [Nat.toUInt8, UInt8.toNat_ofNat']
  omega
/-- Two bytes written out of a row made just now. -/
theorem BldS.duo {w0 w : World} {g : Nat} {t : ByteArray} (h : BldS w0 g t w) (x y : Int) (a b : UInt8) (hx : x = (a.toNat : Int)) (hy : y = (b.toNat : Int)) (hl : t.size + 2 ≤ 140737488355328) :
    Calls Tryd.prog 45 #[.pointer (some ⟨g, 0, none⟩), .slice (some ⟨w.heap.size, 0, none⟩) 2 2] (w.alloc (.cells #[.int .u8 x, .int .u8 y] 5 (0, 0))) fun e w' => (∃ n : Int, e = .returned (.tuple #[.int .i64 n, .nilIface])) ∧ Aside0 (BldS w0 g (t ++ ⟨#[a, b]⟩) w') ∧ Aside0 (∀ k o, w.heap[k]? = some o → k ≠ g → (∀ c fz, o ≠ .cells c 5 fz) → w'.heap[k]? = some o) := by
  subst hx
  subst hy
  refine ((h.alloc _).two _ 2 a b (blk_new w _) hl).mono ?_
  rintro e w' ⟨h1, h2, h3⟩
  exact ⟨h1, h2, ⟨fun k o hk hne ho => h3.out k o ((Lib.alloc_old w _ k (Array.getElem?_eq_some_iff.1 hk).1).trans hk) (fun c => hne (Option.some.inj c)) ho⟩⟩
theorem OthersKept.keep {g : Nat} {w w' : World} (h : Lib.OthersKept 5 (some g) w w') (k : Nat) (o : Obj) (hk : w.heap[k]? = some o) (hne : k ≠ g) (ho : ∀ c fz, o ≠ .cells c 5 fz) : w'.heap[k]? = some o :=
  h k o hk (fun c => hne (Option.some.inj c)) ho
end Go.Proofs.YtnhhbmekjoanbaaDoor.P
set_option linter.unusedVariables false
set_option linter.unusedSimpArgs false
namespace Go.Proofs.YtnhhbmekjoanbaaDoor.P
open Go.RowKit Go.Proofs.YtnhhbmekjoanbaaDoorW.PrintWords Go.Proofs.YtnhhbmekjoanbaaDoorW.PrintLast Go.Proofs.YtnhhbmekjoanbaaDoorW.PrintMore
theorem gw64 {x : Int} (h0 : -9223372036854775808 ≤ x) (h1 : x ≤ 9223372036854775807) : wrap64 x = x := by
  unfold wrap64; omega
theorem tl_inj {a b : ByteArray} (h : a.data.toList = b.data.toList) : a = b := by
  obtain ⟨⟨a⟩⟩ := a
  obtain ⟨⟨b⟩⟩ := b
  simp at h; rw [h]
theorem ext_left (a b : ByteArray) (p q : Nat) (h : q ≤ a.size) : (a ++ b).extract p q = a.extract p q := by
  apply tl_inj
  have hz : a.data.toList.length = a.size := by rw [Array.length_toList]; rfl
  rw [ByteArray.data_extract, ByteArray.data_extract, ByteArray.data_append, Array.toList_extract, Array.toList_extract, Array.toList_append, List.extract_eq_take_drop, List.extract_eq_take_drop]
  by_cases c : p ≤ a.size
  · rw [List.drop_append_of_le_length (by omega), List.take_append_of_le_length (by rw [List.length_drop]; omega)]
  · rw [show q - p = 0 by omega]; simp
theorem toList_nil (s : ByteArray) : s.toList = ([] : List UInt8) ↔ s.size = 0 := by
  rw [ByteArray.toList_eq, Array.toList_eq_nil_iff]
  constructor
  · intro h; show s.data.size = 0; rw [h]; rfl
  · intro h; exact Array.eq_empty_of_size_eq_zero h
theorem ext_all (s : ByteArray) : s.extract 0 s.size = s := ByteArray.extract_zero_size
def ix (c : UInt8) (s : ByteArray) : Nat := (Lib.indexByte s.data.toList c).toNat
def cnt (c : UInt8) (s : ByteArray) : Nat := Lib.countByte s.data.toList c
def pieces (c : UInt8) : Nat → ByteArray → List ByteArray
  | 0, s => [s]
  | k + 1, s => s.extract 0 (ix c s) :: pieces c k (s.extract (ix c s + 1) s.size)
theorem index_of_count (c : UInt8) (l : List UInt8) : 0 < l.count c → 0 ≤ Lib.indexByte l c ∧ Lib.indexByte l c < l.length ∧ (l.drop ((Lib.indexByte l c).toNat + 1)).count c + 1 = l.count c := by
  induction l with
  | nil => intro h; simp at h
  | cons b l ih =>
    intro h
    unfold Lib.indexByte
    by_cases e : (b == c) = true
    · rw [if_pos e, List.count_cons, if_pos e]; simp
    · rw [if_neg e]
      rw [List.count_cons, if_neg e, Nat.add_zero] at h ⊢
      obtain ⟨h1, h2, h3⟩ := ih h
      have c2 : ¬ (Lib.indexByte l c == -1) = true := by rw [beq_iff_eq]; omega
      rw [if_neg c2]
      refine ⟨by omega, by rw [List.length_cons]; omega, ?_⟩
      rw [show (Lib.indexByte l c + 1).toNat = (Lib.indexByte l c).toNat + 1 by omega, List.drop_succ_cons]
      exact h3
theorem index_none (c : UInt8) (l : List UInt8) : l.count c = 0 → Lib.indexByte l c = -1 := by
  induction l with
  | nil => intro _; rfl
  | cons b l ih =>
    intro h
    unfold Lib.indexByte
    by_cases e : (b == c) = true
    · rw [List.count_cons, if_pos e] at h; omega
    · rw [if_neg e]
      rw [List.count_cons, if_neg e, Nat.add_zero] at h
      rw [ih h]; rfl
theorem cnt_none {c : UInt8} {s : ByteArray} (h : cnt c s = 0) : Lib.indexByte s.data.toList c = -1 := index_none c _ h
theorem cnt_pos {c : UInt8} {s : ByteArray} (h : 0 < cnt c s) : Lib.indexByte s.data.toList c = (ix c s : Int) ∧ ix c s < s.size ∧ cnt c (s.extract (ix c s + 1) s.size) + 1 = cnt c s := by
  obtain ⟨h1, h2, h3⟩ := index_of_count c s.data.toList h
  have hz : s.data.toList.length = s.size := by rw [Array.length_toList]; rfl
  refine ⟨by unfold ix; omega, by unfold ix; omega, ?_⟩
  unfold cnt Lib.countByte ix
  rw [ByteArray.data_extract, Array.toList_extract, List.extract_eq_take_drop]
  rw [List.take_of_length_le (by rw [List.length_drop]; omega)]
  exact h3
theorem pieces_sizes (c : UInt8) : ∀ (k : Nat) (s : ByteArray), ∀ x ∈ pieces c k s, x.size ≤ s.size
  | 0, s, x, h => by simp [pieces] at h; subst h; omega
  | k + 1, s, x, h => by
    rw [pieces] at h
    rcases List.mem_cons.1 h with rfl | h
    · rw [ByteArray.size_extract]; omega
    · have := pieces_sizes c k _ x h
      rw [ByteArray.size_extract] at this; omega
/-- The pieces from `fr` on, the bytes ahead of i being no sign. -/
def sp (c : Int) (s : ByteArray) : Nat → Nat → Nat → List ByteArray
  | 0, fr, _ => [s.extract fr s.size]
  | n + 1, fr, i => if bt s (i : Int) = c then s.extract fr i :: sp c s n (i + 1) (i + 1) else sp c s n fr (i + 1)
/-- All pieces. -/
def spl (c : UInt8) (s : ByteArray) : List ByteArray := pieces c (cnt c s) s
theorem spl_sizes (c : UInt8) (s : ByteArray) : ∀ x ∈ spl c s, x.size ≤ s.size := pieces_sizes c _ s
end Go.Proofs.YtnhhbmekjoanbaaDoor.P
set_option linter.unusedVariables false
set_option linter.unusedSimpArgs false
namespace Go.Proofs.YtnhhbmekjoanbaaDoor.P
theorem less_rev : ∀ a b : List UInt8, (!(Op.bytesLess a b || a == b)) = Op.bytesLess b a
  | [], [] => rfl
  | [], _ :: _ => rfl
  | _ :: _, [] => rfl
  | x :: xs, y :: ys => by
    have ih := less_rev xs ys
    have e : ((x :: xs) == (y :: ys)) = (x == y && xs == ys) := rfl
    rw [Op.bytesLess, Op.bytesLess, e, ← ih]
    by_cases h1 : x < y
    · have h2 : ¬ y < x := by rw [UInt8.lt_iff_toNat_lt] at *; omega
      have h3 : (y == x) = false := beq_eq_false_iff_ne.2 (fun h => by subst h; exact h2 h1)
      rw [decide_eq_true h1, decide_eq_false h2, h3]; simp
    · by_cases h2 : y < x
      · have h3 : (x == y) = false := beq_eq_false_iff_ne.2 (fun h => by subst h; exact h1 h2)
        rw [decide_eq_false h1, decide_eq_true h2, h3]; simp
      · have h3 : x = y := UInt8.toNat_inj.1 (by rw [UInt8.lt_iff_toNat_lt] at h1 h2; omega)
        subst h3
        rw [decide_eq_false h1]; simp
end Go.Proofs.YtnhhbmekjoanbaaDoor.P
namespace Go.Proofs.YtnhhbmekjoanbaaDoor.P
open Go.RowKit Go.Proofs.YtnhhbmekjoanbaaDoorW.PrintWords Go.Proofs.YtnhhbmekjoanbaaDoorW.PrintLast Go.Proofs.YtnhhbmekjoanbaaDoorW.PrintMore
attribute [local go_sem] max2_int min2_int max_two min_two max_three min_three max_four min_four
set_option linter.unusedVariables false
set_option linter.unusedSimpArgs false
set_option maxHeartbeats 2000000 in
set_option maxRecDepth 100000 in
theorem cut_short (b : Nat) (s : ByteArray) (n : Nat) (w : World) (hb : w.heap[b]? = some (.cells #[.string s] 9 (0, 0))) (h : s.size < n) :
    Calls Tryd.prog 80 #[.pointer (some ⟨b, 0, none⟩), .int .i64 (n : Int)] w fun e w' => e = .returned (.tuple #[.string ⟨#[]⟩, .bool false]) ∧ w' = w := by
  have c0 : w.cell? ⟨b, 0, none⟩ = some (.string s) := (blk_cell hb 0).trans rfl
  have h1 : decide ((s.size : Int) < (n : Int)) = true := decide_eq_true (by omega)
  have h2 : decide (s.size < n) = true := decide_eq_true h
  go_enter Tryd.func80, Tryd.ntmps80
  go_wp2
  go_ret2
  exact ⟨rfl, rfl⟩
set_option maxHeartbeats 2000000 in
set_option maxRecDepth 100000 in
theorem cut_long (b : Nat) (s : ByteArray) (n : Nat) (w : World) (hb : w.heap[b]? = some (.cells #[.string s] 9 (0, 0))) (h : n ≤ s.size) :
    Calls Tryd.prog 80 #[.pointer (some ⟨b, 0, none⟩), .int .i64 (n : Int)] w fun e w' => e = .returned (.tuple #[.string (s.extract 0 n), .bool true]) ∧ w' = w.setCell ⟨b, 0, none⟩ (.string (s.extract n s.size)) := by
  have c0 : w.cell? ⟨b, 0, none⟩ = some (.string s) := (blk_cell hb 0).trans rfl
  have f0 := blk_frozen hb 0
  have h1 : decide ((s.size : Int) < (n : Int)) = false := decide_eq_false (by omega)
  have h2 : decide (s.size < n) = false := decide_eq_false (by omega)
  have p0 : (0 : Int) ≤ (n : Int) := by omega
  have p1 : (n : Int) ≤ (s.size : Int) := by omega
  go_enter Tryd.func80, Tryd.ntmps80
  go_wp2
  go_ret2
  exact ⟨rfl, rfl⟩
/-- What a call may turn that has a text's cell in hand: that cell, and what it lays anew. -/
def Mv (b : Nat) (s0 s : ByteArray) (w W : World) : Prop := W.heap[b]? = some (.cells #[.string s] 9 (0, 0)) ∧ Below w.heap.size w (W.setCell ⟨b, 0, none⟩ (.string s0))
theorem setCell_same {b : Nat} {s : ByteArray} {w : World} (h : w.heap[b]? = some (.cells #[.string s] 9 (0, 0))) : w.setCell ⟨b, 0, none⟩ (.string s) = w := by
  have hs : (w.setCell ⟨b, 0, none⟩ (.string s)).heap = w.heap := by
    apply Array.ext_getElem?
    intro k
    by_cases hk : k = b
    · subst hk
      rw [blk_put (cs := #[.string s]) h 0 (.string s) rfl, h]
      rfl
    · exact Below.heap_setCell w ⟨b, 0, none⟩ (.string s) k hk
  unfold World.setCell at hs ⊢
  dsimp only at hs ⊢
  rw [hs]
theorem setCell_two (w : World) (b : Nat) (x y : Value) : (w.setCell ⟨b, 0, none⟩ x).setCell ⟨b, 0, none⟩ y = w.setCell ⟨b, 0, none⟩ y := by
  unfold World.setCell
  congr 1
  apply Array.ext_getElem?
  intro k
  simp only [Array.getElem?_modify]
  by_cases hk : b = k
  · simp only [hk, if_true]
    cases w.heap[k]? with
    | none => rfl
    | some o => cases o <;> simp
  · simp only [hk, if_false]
theorem Mv.refl {b : Nat} {s : ByteArray} {w : World} (h : w.heap[b]? = some (.cells #[.string s] 9 (0, 0))) : Mv b s s w w := ⟨h, by rw [setCell_same h]; exact Below.refl _ _⟩
theorem Mv.lt {b : Nat} {s0 s : ByteArray} {w W : World} (h : Mv b s0 s w W) : b < W.heap.size := (Array.getElem?_eq_some_iff.1 h.1).1
theorem Mv.size {b : Nat} {s0 s : ByteArray} {w W : World} (h : Mv b s0 s w W) : w.heap.size ≤ W.heap.size := by
  have h1 := h.2.size
  unfold World.setCell at h1
  simpa using h1
theorem Mv.cell {b : Nat} {s0 s : ByteArray} {w W : World} (h : Mv b s0 s w W) (s' : ByteArray) : Mv b s0 s' w (W.setCell ⟨b, 0, none⟩ (.string s')) :=
  ⟨blk_put h.1 0 _ rfl, by rw [setCell_two]; exact h.2⟩
theorem Mv.step {b C : Nat} {s0 s : ByteArray} {w W W1 : World} (hb : b < w.heap.size) (h : Mv b s0 s w W) (hg : Below C W W1) (hC : w.heap.size ≤ C) : Mv b s0 s w W1 := by
  have h1 : W1.heap[b]? = some (.cells #[.string s] 9 (0, 0)) := (hg.block b (by omega)).trans h.1
  refine ⟨h1, ?_⟩
  refine ⟨hg.os.trans h.2.os, hg.tape.trans h.2.tape, hg.output.trans h.2.output, ?_, ?_⟩
  · have := hg.size
    have := h.size
    unfold World.setCell
    simp only [Array.size_modify]
    omega
  · intro k hk
    rw [← h.2.block k hk]
    by_cases hkb : k = b
    · subst hkb
      rw [blk_put h1 0 (.string s0) (cs' := #[.string s0]) rfl, blk_put h.1 0 (.string s0) (cs' := #[.string s0]) rfl]
    · rw [Below.heap_setCell _ _ _ k hkb, Below.heap_setCell _ _ _ k hkb]
      exact hg.block k (by omega)
/-- Whatever abides new memory and a turn of the cell, abides the call. -/
theorem Mv.calm {α : Type} {b : Nat} {s0 s : ByteArray} {w W : World} {J : List α → World → Prop} {pre : List α} (h : Mv b s0 s w W) (hJ : Rg.Calm b J) (hp : J pre w) : J pre W := by
  have h1 := hJ.cell (.string s) (hJ.grow hp h.2)
  rw [setCell_two, setCell_same h.1] at h1
  exact h1
theorem two_bytes (s : ByteArray) (h : 2 ≤ s.size) : s.extract 0 2 = ⟨#[s.get! 0, s.get! 1]⟩ := by
  obtain ⟨⟨l⟩⟩ := s
  match l, h with
  | a :: b :: r, _ =>
    apply ByteArray.ext
    rw [ByteArray.data_extract]
    apply Array.toList_inj.mp
    simp [ByteArray.get!]
theorem num16 (u v : UInt8) : bits .or .i64 (IntKind.i64.wrap (IntKind.i64.wrap (u.toNat : Int) * 256)) (IntKind.i64.wrap (v.toNat : Int)) = ((u.toNat * 256 + v.toNat : Nat) : Int) := by
  have hu := u.toNat_lt
  have hv := v.toNat_lt
  rw [show IntKind.i64.wrap (IntKind.i64.wrap (u.toNat : Int) * 256) = (u.toNat : Int) * 256 by rw [IntKind.wrap_i64, IntKind.wrap_i64]; omega, show IntKind.i64.wrap (v.toNat : Int) = (v.toNat : Int) by rw [IntKind.wrap_i64]; omega]
  rw [bits_join .i64 63 (by decide) (fun n h0 h1 => by rw [IntKind.wrap_i64]; omega) 8 _ _ (by omega) (by omega) (by omega) (by omega) (by omega) (by omega)]
  omega
/-- What first takes off a text: the op, whether there is one, the rest. -/
def firstB (s : ByteArray) : S45 × Bool × ByteArray :=
  if s.size < 2 then (z45, false, s) else
  if 1 < (s.get! 0).toNat then (z45, false, s.extract 2 s.size) else
  if (s.extract 2 s.size).size < (s.get! 1).toNat then (⟨(s.get! 0).toNat == 1, ⟨#[]⟩, ⟨#[]⟩⟩, false, s.extract 2 s.size) else
  if (s.get! 0).toNat = 1 then (⟨true, (s.extract 2 s.size).extract 0 (s.get! 1).toNat, ⟨#[]⟩⟩, true, (s.extract 2 s.size).extract (s.get! 1).toNat (s.extract 2 s.size).size) else
  firstC ((s.extract 2 s.size).extract 0 (s.get! 1).toNat) ((s.extract 2 s.size).extract (s.get! 1).toNat (s.extract 2 s.size).size)
where
  firstC (p q : ByteArray) : S45 × Bool × ByteArray :=
    if q.size < 2 then (z45, false, q) else
    if (q.extract 2 q.size).size < (q.get! 0).toNat * 256 + (q.get! 1).toNat then (⟨false, p, ⟨#[]⟩⟩, false, q.extract 2 q.size) else
    (⟨false, p, (q.extract 2 q.size).extract 0 ((q.get! 0).toNat * 256 + (q.get! 1).toNat)⟩, true, (q.extract 2 q.size).extract ((q.get! 0).toNat * 256 + (q.get! 1).toNat) (q.extract 2 q.size).size)
theorem get_0 (x y : UInt8) (h : 0 < (⟨#[x, y]⟩ : ByteArray).size) : (⟨#[x, y]⟩ : ByteArray)[0]'h = x := rfl
theorem get_1 (x y : UInt8) (h : 1 < (⟨#[x, y]⟩ : ByteArray).size) : (⟨#[x, y]⟩ : ByteArray)[1]'h = y := rfl
theorem wrap_u8 (y : UInt8) : wrap64 (y.toNat : Int) = (y.toNat : Int) := IntWalk.wrap64_in _ (by have := y.toNat_lt; omega)
attribute [local go_sem] get_0 get_1 wrap_u8
theorem res_first {tmps : Array Value} {W : World} {g : Nat} {cs : Array Value} (ht : tmps.getD 2 undef = .pointer (some ⟨g, 0, none⟩)) (hg : W.heap[g]? = some (.cells cs 45 (0, 0))) (hc : cs.size = 3) :
    (results Tryd.f62 tmps).run Tryd.prog W = .ok (.tuple #[.agg cs, tmps.getD 3 undef]) W := by
  rw [results_cell_tmp (fn := Tryd.f62) (p := 2) (u := 3) (ty := 45) rfl, ht]
  have hi : (Tryd.prog.info? 45).map (·.size) = some 3 := by kernel_rfl
  simp [asAddr, run_loadVar_row W g 45 45 cs (0, 0) _ hg Tryd.underlying45 rfl (by rw [hi, hc]), Result.andThen]
theorem cut2 (b : Nat) (s : ByteArray) (w : World) (hb : w.heap[b]? = some (.cells #[.string s] 9 (0, 0))) (h : 2 ≤ s.size) :
    Calls Tryd.prog 80 #[.pointer (some ⟨b, 0, none⟩), .int .i64 2] w fun e w' => e = .returned (.tuple #[.string ⟨#[s.get! 0, s.get! 1]⟩, .bool true]) ∧ w' = w.setCell ⟨b, 0, none⟩ (.string (s.extract 2 s.size)) := by
  rw [← two_bytes s h]
  exact cut_long b s 2 w hb h
def Cut2 (b : Nat) (s : ByteArray) (x y : UInt8) (r : ByteArray) : Prop := ∀ W : World, W.heap[b]? = some (.cells #[.string s] 9 (0, 0)) → Calls Tryd.prog 80 #[.pointer (some ⟨b, 0, none⟩), .int .i64 2] W fun e w' => e = .returned (.tuple #[.string ⟨#[x, y]⟩, .bool true]) ∧ w' = W.setCell ⟨b, 0, none⟩ (.string r)
def Good (o : S45) (is : Bool) (b : Nat) (s r : ByteArray) (w : World) (e : Ending) (w' : World) : Prop := e = .returned (.tuple #[.agg #[.bool o.f0, .string o.f1, .string o.f2], .bool is]) ∧ Mv b s r w w'
set_option maxHeartbeats 2000000 in
set_option maxRecDepth 100000 in
theorem first_a (b : Nat) (s : ByteArray) (w : World) (hb : w.heap[b]? = some (.cells #[.string s] 9 (0, 0))) (h : s.size < 2) :
    Calls Tryd.prog 62 #[.pointer (some ⟨b, 0, none⟩)] w (Good z45 false b s s w) := by
  have hu := Tryd.underlying45
  have HM := Aside0.mk (Mv.refl hb)
  have hlt := Aside0.mk (Array.getElem?_eq_some_iff.1 hb).1
  have H := Aside0.mk h
  clear hb h
  go_enter Tryd.func62, Tryd.ntmps62
  go_wp2_with (first
    | (refine box_lay 2 rfl rfl 45 rfl #[.bool false, .string ⟨#[]⟩, .string ⟨#[]⟩] (by kernel_rfl) ?_; intro gr HG w1 HK HW; have HM1 := Aside0.mk (HM.out.step hlt.out HW.out (Nat.le_refl _)))
    | (go_at_call 80; refine (cut_short b s 2 _ HM1.out.1 H.out).mono ?_; rintro e w2 ⟨rfl, rfl⟩)
    | (refine box_put rfl rfl 45 _ _ rfl gr _ #[.bool false, .string ⟨#[]⟩, .string ⟨#[]⟩] rfl rfl HK.out rfl rfl (by kernel_rfl) ?_; intro w3 HK3 HW3 HO3 HS3; have HM3 := Aside0.mk (HM1.out.step hlt.out HW3.out (Nat.le_of_eq HG.out.symm))))
  refine bodyPost_ret (res_first rfl HK3.out rfl) rfl ?_
  exact ⟨rfl, HM3.out⟩
set_option maxHeartbeats 2000000 in
set_option maxRecDepth 100000 in
theorem first_b (b : Nat) (s r : ByteArray) (x y : UInt8) (w : World) (hb : w.heap[b]? = some (.cells #[.string s] 9 (0, 0))) (hc : Cut2 b s x y r) (hx : 1 < x.toNat) :
    Calls Tryd.prog 62 #[.pointer (some ⟨b, 0, none⟩)] w (Good z45 false b s r w) := by
  have hu := Tryd.underlying45
  have HM := Aside0.mk (Mv.refl hb)
  have hlt := Aside0.mk (Array.getElem?_eq_some_iff.1 hb).1
  have HC := Aside0.mk hc
  have d1 : decide (1 < x.toNat) = true := decide_eq_true hx
  have d2 : decide ((1 : Int) < (x.toNat : Int)) = true := decide_eq_true (by omega)
  clear hb hc hx
  go_enter Tryd.func62, Tryd.ntmps62
  go_upto_region 3 with (first
    | (refine box_lay 2 rfl rfl 45 rfl #[.bool false, .string ⟨#[]⟩, .string ⟨#[]⟩] (by kernel_rfl) ?_; intro gr HG w1 HK HW; have HM1 := Aside0.mk (HM.out.step hlt.out HW.out (Nat.le_refl _)))
    | (go_at_call 80; refine (HC.out _ HM1.out.1).mono ?_; rintro e w2 ⟨rfl, hw2⟩; have HM2 := Aside0.mk (HM1.out.cell r); have HK2 := Aside0.mk ((Below.heap_setCell w1 ⟨b, 0, none⟩ (.string r) gr (by have := HG.out; have := hlt.out; dsimp only; omega)).trans HK.out); rw [← hw2] at HM2 HK2; clear hw2))
  go_wp2_with (refine box_put rfl rfl 45 _ _ rfl gr _ #[.bool false, .string ⟨#[]⟩, .string ⟨#[]⟩] rfl rfl HK2.out rfl rfl (by kernel_rfl) ?_; intro w3 HK3 HW3 HO3 HS3; have HM3 := Aside0.mk (HM2.out.step hlt.out HW3.out (Nat.le_of_eq HG.out.symm)))
  refine bodyPost_ret (res_first rfl HK3.out rfl) rfl ?_
  exact ⟨rfl, HM3.out⟩
set_option maxHeartbeats 2000000 in
set_option maxRecDepth 100000 in
theorem first_c (b : Nat) (s r : ByteArray) (x y : UInt8) (gb : Bool) (w : World) (hb : w.heap[b]? = some (.cells #[.string s] 9 (0, 0))) (hc : Cut2 b s x y r) (hx : ¬ 1 < x.toNat) (hg : ((x.toNat : Int) == 1) = gb) (hy : r.size < y.toNat) :
    Calls Tryd.prog 62 #[.pointer (some ⟨b, 0, none⟩)] w (Good ⟨gb, ⟨#[]⟩, ⟨#[]⟩⟩ false b s r w) := by
  have hu := Tryd.underlying45
  have HM := Aside0.mk (Mv.refl hb)
  have hlt := Aside0.mk (Array.getElem?_eq_some_iff.1 hb).1
  have HC := Aside0.mk hc
  have HY := Aside0.mk hy
  have d1 : decide (1 < x.toNat) = false := decide_eq_false hx
  have d2 : decide ((1 : Int) < (x.toNat : Int)) = false := decide_eq_false (by omega)
  clear hb hc hx hy
  go_enter Tryd.func62, Tryd.ntmps62
  go_upto_region 5 with (first
    | (refine box_lay 2 rfl rfl 45 rfl #[.bool false, .string ⟨#[]⟩, .string ⟨#[]⟩] (by kernel_rfl) ?_; intro gr HG w1 HK HW; have HM1 := Aside0.mk (HM.out.step hlt.out HW.out (Nat.le_refl _)))
    | (go_at_call 80; refine (HC.out _ HM1.out.1).mono ?_; rintro e w2 ⟨rfl, hw2⟩; have HM2 := Aside0.mk (HM1.out.cell r); have HK2 := Aside0.mk ((Below.heap_setCell w1 ⟨b, 0, none⟩ (.string r) gr (by have := HG.out; have := hlt.out; dsimp only; omega)).trans HK.out); rw [← hw2] at HM2 HK2; clear hw2)
    | (refine box_lay 6 rfl rfl 45 rfl #[.bool false, .string ⟨#[]⟩, .string ⟨#[]⟩] (by kernel_rfl) ?_; intro go HGo w3 HKo HW3; have HM3 := Aside0.mk (HM2.out.step hlt.out HW3.out HM2.out.size); have HK3 := Aside0.mk (blk_below HK2.out HW3.out); have HLo := Aside0.mk (show w.heap.size < go by have := HGo.out; have := HG.out; have := (Array.getElem?_eq_some_iff.1 HK2.out).1; omega))
    | (refine box_put rfl rfl 45 _ _ rfl go _ #[.bool gb, .string ⟨#[]⟩, .string ⟨#[]⟩] rfl rfl HKo.out rfl rfl (by kernel_rfl) ?_; intro w4 HKo4 HW4 HO4 HS4; have HM4 := Aside0.mk (HM3.out.step hlt.out HW4.out (Nat.le_of_lt HLo.out)); have HK4 := Aside0.mk ((HO4.out gr (by have := HLo.out; have := HG.out; omega)).trans HK3.out)))
  go_upto_region 6 with (go_at_call 80; refine (cut_short b r y.toNat _ HM4.out.1 HY.out).mono ?_; rintro e w5 ⟨rfl, hw5⟩; have HM5 := HM4; have HKo5 := HKo4; have HK5 := HK4; rw [← hw5] at HM5 HKo5 HK5; clear hw5; have c0 : w5.cell? ⟨go, 0, none⟩ = some (.bool gb) := (blk_cell HKo5.out 0).trans rfl; have c1 : w5.cell? ⟨go, 1, none⟩ = some (.string ⟨#[]⟩) := (blk_cell HKo5.out 1).trans rfl; have c2 : w5.cell? ⟨go, 2, none⟩ = some (.string ⟨#[]⟩) := (blk_cell HKo5.out 2).trans rfl; have f1 := blk_frozen HKo5.out 1)
  have HM6 := Aside0.mk (HM5.out.step hlt.out ((Below.refl go w5).setCell (p := ⟨go, 1, none⟩) (Nat.le_refl _) (.string ⟨#[]⟩)) (Nat.le_of_lt HLo.out))
  have HK6 := Aside0.mk ((Below.heap_setCell w5 ⟨go, 1, none⟩ (.string ⟨#[]⟩) gr (by have := HLo.out; have := HG.out; dsimp only; omega)).trans HK5.out)
  have HKo6 := Aside0.mk (blk_put (cs' := #[.bool gb, .string ⟨#[]⟩, .string ⟨#[]⟩]) HKo5.out 1 (.string ⟨#[]⟩) rfl)
  generalize hw6 : w5.setCell ⟨go, 1, none⟩ (.string ⟨#[]⟩) = w6 at *
  clear hw6 c0 c1 c2 f1
  have c0 : w6.cell? ⟨go, 0, none⟩ = some (.bool gb) := (blk_cell HKo6.out 0).trans rfl
  have c1 : w6.cell? ⟨go, 1, none⟩ = some (.string ⟨#[]⟩) := (blk_cell HKo6.out 1).trans rfl
  have c2 : w6.cell? ⟨go, 2, none⟩ = some (.string ⟨#[]⟩) := (blk_cell HKo6.out 2).trans rfl
  go_wp2_with (refine box_put rfl rfl 45 _ _ rfl gr _ #[.bool gb, .string ⟨#[]⟩, .string ⟨#[]⟩] rfl rfl HK6.out rfl rfl (by kernel_rfl) ?_; intro w7 HK7 HW7 HO7 HS7; have HM7 := Aside0.mk (HM6.out.step hlt.out HW7.out (Nat.le_of_eq HG.out.symm)))
  refine bodyPost_ret (res_first rfl HK7.out rfl) rfl ?_
  exact ⟨rfl, HM7.out⟩
set_option maxHeartbeats 2000000 in
set_option maxRecDepth 100000 in
theorem first_d (b : Nat) (s r : ByteArray) (x y : UInt8) (w : World) (hb : w.heap[b]? = some (.cells #[.string s] 9 (0, 0))) (hc : Cut2 b s x y r) (hx : ¬ 1 < x.toNat) (hg : ((x.toNat : Int) == 1) = true) (hy : y.toNat ≤ r.size) :
    Calls Tryd.prog 62 #[.pointer (some ⟨b, 0, none⟩)] w (Good ⟨true, r.extract 0 y.toNat, ⟨#[]⟩⟩ true b s (r.extract y.toNat r.size) w) := by
  have hu := Tryd.underlying45
  have HM := Aside0.mk (Mv.refl hb)
  have hlt := Aside0.mk (Array.getElem?_eq_some_iff.1 hb).1
  have HC := Aside0.mk hc
  have HY := Aside0.mk hy
  have d1 : decide (1 < x.toNat) = false := decide_eq_false hx
  have d2 : decide ((1 : Int) < (x.toNat : Int)) = false := decide_eq_false (by omega)
  clear hb hc hx hy
  go_enter Tryd.func62, Tryd.ntmps62
  go_upto_region 5 with (first
    | (refine box_lay 2 rfl rfl 45 rfl #[.bool false, .string ⟨#[]⟩, .string ⟨#[]⟩] (by kernel_rfl) ?_; intro gr HG w1 HK HW; have HM1 := Aside0.mk (HM.out.step hlt.out HW.out (Nat.le_refl _)))
    | (go_at_call 80; refine (HC.out _ HM1.out.1).mono ?_; rintro e w2 ⟨rfl, hw2⟩; have HM2 := Aside0.mk (HM1.out.cell r); have HK2 := Aside0.mk ((Below.heap_setCell w1 ⟨b, 0, none⟩ (.string r) gr (by have := HG.out; have := hlt.out; dsimp only; omega)).trans HK.out); rw [← hw2] at HM2 HK2; clear hw2)
    | (refine box_lay 6 rfl rfl 45 rfl #[.bool false, .string ⟨#[]⟩, .string ⟨#[]⟩] (by kernel_rfl) ?_; intro go HGo w3 HKo HW3; have HM3 := Aside0.mk (HM2.out.step hlt.out HW3.out HM2.out.size); have HK3 := Aside0.mk (blk_below HK2.out HW3.out); have HLo := Aside0.mk (show w.heap.size < go by have := HGo.out; have := HG.out; have := (Array.getElem?_eq_some_iff.1 HK2.out).1; omega))
    | (refine box_put rfl rfl 45 _ _ rfl go _ #[.bool true, .string ⟨#[]⟩, .string ⟨#[]⟩] rfl rfl HKo.out rfl rfl (by kernel_rfl) ?_; intro w4 HKo4 HW4 HO4 HS4; have HM4 := Aside0.mk (HM3.out.step hlt.out HW4.out (Nat.le_of_lt HLo.out)); have HK4 := Aside0.mk ((HO4.out gr (by have := HLo.out; have := HG.out; omega)).trans HK3.out)))
  go_upto_region 6 with (go_at_call 80; refine (cut_long b r y.toNat _ HM4.out.1 HY.out).mono ?_; rintro e w5 ⟨rfl, hw5⟩; have HM5 := Aside0.mk (HM4.out.cell (r.extract y.toNat r.size)); have HKo5 := Aside0.mk ((Below.heap_setCell w4 ⟨b, 0, none⟩ (.string (r.extract y.toNat r.size)) go (by have := HLo.out; have := hlt.out; dsimp only; omega)).trans HKo4.out); have HK5 := Aside0.mk ((Below.heap_setCell w4 ⟨b, 0, none⟩ (.string (r.extract y.toNat r.size)) gr (by have := HG.out; have := hlt.out; dsimp only; omega)).trans HK4.out); rw [← hw5] at HM5 HKo5 HK5; clear hw5; have c0 : w5.cell? ⟨go, 0, none⟩ = some (.bool true) := (blk_cell HKo5.out 0).trans rfl; have c1 : w5.cell? ⟨go, 1, none⟩ = some (.string ⟨#[]⟩) := (blk_cell HKo5.out 1).trans rfl; have c2 : w5.cell? ⟨go, 2, none⟩ = some (.string ⟨#[]⟩) := (blk_cell HKo5.out 2).trans rfl; have f1 := blk_frozen HKo5.out 1)
  have HM6 := Aside0.mk (HM5.out.step hlt.out ((Below.refl go w5).setCell (p := ⟨go, 1, none⟩) (Nat.le_refl _) (.string (r.extract 0 y.toNat))) (Nat.le_of_lt HLo.out))
  have HK6 := Aside0.mk ((Below.heap_setCell w5 ⟨go, 1, none⟩ (.string (r.extract 0 y.toNat)) gr (by have := HLo.out; have := HG.out; dsimp only; omega)).trans HK5.out)
  have HKo6 := Aside0.mk (blk_put (cs' := #[.bool true, .string (r.extract 0 y.toNat), .string ⟨#[]⟩]) HKo5.out 1 (.string (r.extract 0 y.toNat)) rfl)
  generalize hw6 : w5.setCell ⟨go, 1, none⟩ (.string (r.extract 0 y.toNat)) = w6 at *
  clear hw6 c0 c1 c2 f1
  have c0 : w6.cell? ⟨go, 0, none⟩ = some (.bool true) := (blk_cell HKo6.out 0).trans rfl
  have c1 : w6.cell? ⟨go, 1, none⟩ = some (.string (r.extract 0 y.toNat)) := (blk_cell HKo6.out 1).trans rfl
  have c2 : w6.cell? ⟨go, 2, none⟩ = some (.string ⟨#[]⟩) := (blk_cell HKo6.out 2).trans rfl
  go_wp2_with (refine box_put rfl rfl 45 _ _ rfl gr _ #[.bool true, .string (r.extract 0 y.toNat), .string ⟨#[]⟩] rfl rfl HK6.out rfl rfl (by kernel_rfl) ?_; intro w7 HK7 HW7 HO7 HS7; have HM7 := Aside0.mk (HM6.out.step hlt.out HW7.out (Nat.le_of_eq HG.out.symm)))
  refine bodyPost_ret (res_first rfl HK7.out rfl) rfl ?_
  exact ⟨rfl, HM7.out⟩
set_option maxHeartbeats 2000000 in
set_option maxRecDepth 100000 in
theorem first_e (b : Nat) (s r : ByteArray) (x y : UInt8) (w : World) (hb : w.heap[b]? = some (.cells #[.string s] 9 (0, 0))) (hc : Cut2 b s x y r) (hx : ¬ 1 < x.toNat) (hg : ((x.toNat : Int) == 1) = false) (hy : y.toNat ≤ r.size) (hq : (r.extract y.toNat r.size).size < 2) :
    Calls Tryd.prog 62 #[.pointer (some ⟨b, 0, none⟩)] w (Good z45 false b s (r.extract y.toNat r.size) w) := by
  have hu := Tryd.underlying45
  have HM := Aside0.mk (Mv.refl hb)
  have hlt := Aside0.mk (Array.getElem?_eq_some_iff.1 hb).1
  have HC := Aside0.mk hc
  have HY := Aside0.mk hy
  have d1 : decide (1 < x.toNat) = false := decide_eq_false hx
  have d2 : decide ((1 : Int) < (x.toNat : Int)) = false := decide_eq_false (by omega)
  have HQ := Aside0.mk hq
  clear hb hc hx hy hq
  go_enter Tryd.func62, Tryd.ntmps62
  go_upto_region 5 with (first
    | (refine box_lay 2 rfl rfl 45 rfl #[.bool false, .string ⟨#[]⟩, .string ⟨#[]⟩] (by kernel_rfl) ?_; intro gr HG w1 HK HW; have HM1 := Aside0.mk (HM.out.step hlt.out HW.out (Nat.le_refl _)))
    | (go_at_call 80; refine (HC.out _ HM1.out.1).mono ?_; rintro e w2 ⟨rfl, hw2⟩; have HM2 := Aside0.mk (HM1.out.cell r); have HK2 := Aside0.mk ((Below.heap_setCell w1 ⟨b, 0, none⟩ (.string r) gr (by have := HG.out; have := hlt.out; dsimp only; omega)).trans HK.out); rw [← hw2] at HM2 HK2; clear hw2)
    | (refine box_lay 6 rfl rfl 45 rfl #[.bool false, .string ⟨#[]⟩, .string ⟨#[]⟩] (by kernel_rfl) ?_; intro go HGo w3 HKo HW3; have HM3 := Aside0.mk (HM2.out.step hlt.out HW3.out HM2.out.size); have HK3 := Aside0.mk (blk_below HK2.out HW3.out); have HLo := Aside0.mk (show w.heap.size < go by have := HGo.out; have := HG.out; have := (Array.getElem?_eq_some_iff.1 HK2.out).1; omega))
    | (refine box_put rfl rfl 45 _ _ rfl go _ #[.bool false, .string ⟨#[]⟩, .string ⟨#[]⟩] rfl rfl HKo.out rfl rfl (by kernel_rfl) ?_; intro w4 HKo4 HW4 HO4 HS4; have HM4 := Aside0.mk (HM3.out.step hlt.out HW4.out (Nat.le_of_lt HLo.out)); have HK4 := Aside0.mk ((HO4.out gr (by have := HLo.out; have := HG.out; omega)).trans HK3.out)))
  go_upto_region 6 with (go_at_call 80; refine (cut_long b r y.toNat _ HM4.out.1 HY.out).mono ?_; rintro e w5 ⟨rfl, hw5⟩; have HM5 := Aside0.mk (HM4.out.cell (r.extract y.toNat r.size)); have HKo5 := Aside0.mk ((Below.heap_setCell w4 ⟨b, 0, none⟩ (.string (r.extract y.toNat r.size)) go (by have := HLo.out; have := hlt.out; dsimp only; omega)).trans HKo4.out); have HK5 := Aside0.mk ((Below.heap_setCell w4 ⟨b, 0, none⟩ (.string (r.extract y.toNat r.size)) gr (by have := HG.out; have := hlt.out; dsimp only; omega)).trans HK4.out); rw [← hw5] at HM5 HKo5 HK5; clear hw5; have c0 : w5.cell? ⟨go, 0, none⟩ = some (.bool false) := (blk_cell HKo5.out 0).trans rfl; have c1 : w5.cell? ⟨go, 1, none⟩ = some (.string ⟨#[]⟩) := (blk_cell HKo5.out 1).trans rfl; have c2 : w5.cell? ⟨go, 2, none⟩ = some (.string ⟨#[]⟩) := (blk_cell HKo5.out 2).trans rfl; have f1 := blk_frozen HKo5.out 1)
  have HM6 := Aside0.mk (HM5.out.step hlt.out ((Below.refl go w5).setCell (p := ⟨go, 1, none⟩) (Nat.le_refl _) (.string (r.extract 0 y.toNat))) (Nat.le_of_lt HLo.out))
  have HK6 := Aside0.mk ((Below.heap_setCell w5 ⟨go, 1, none⟩ (.string (r.extract 0 y.toNat)) gr (by have := HLo.out; have := HG.out; dsimp only; omega)).trans HK5.out)
  have HKo6 := Aside0.mk (blk_put (cs' := #[.bool false, .string (r.extract 0 y.toNat), .string ⟨#[]⟩]) HKo5.out 1 (.string (r.extract 0 y.toNat)) rfl)
  generalize hw6 : w5.setCell ⟨go, 1, none⟩ (.string (r.extract 0 y.toNat)) = w6 at *
  clear hw6 c0 c1 c2 f1
  have c0 : w6.cell? ⟨go, 0, none⟩ = some (.bool false) := (blk_cell HKo6.out 0).trans rfl
  have c1 : w6.cell? ⟨go, 1, none⟩ = some (.string (r.extract 0 y.toNat)) := (blk_cell HKo6.out 1).trans rfl
  have c2 : w6.cell? ⟨go, 2, none⟩ = some (.string ⟨#[]⟩) := (blk_cell HKo6.out 2).trans rfl
  go_wp2_with (first
    | (go_at_call 80; refine (cut_short b _ 2 _ HM6.out.1 HQ.out).mono ?_; rintro e w8 ⟨rfl, hw8⟩; have HM8 := HM6; have HK8 := HK6; rw [← hw8] at HM8 HK8; clear hw8)
    | (refine box_put rfl rfl 45 _ _ rfl gr _ #[.bool false, .string ⟨#[]⟩, .string ⟨#[]⟩] rfl rfl HK8.out rfl rfl (by kernel_rfl) ?_; intro w7 HK7 HW7 HO7 HS7; have HM7 := Aside0.mk (HM8.out.step hlt.out HW7.out (Nat.le_of_eq HG.out.symm))))
  refine bodyPost_ret (res_first rfl HK7.out rfl) rfl ?_
  exact ⟨rfl, HM7.out⟩
set_option maxHeartbeats 2000000 in
set_option maxRecDepth 100000 in
theorem first_f (b : Nat) (s r : ByteArray) (x y u v : UInt8) (z : ByteArray) (w : World) (hb : w.heap[b]? = some (.cells #[.string s] 9 (0, 0))) (hc : Cut2 b s x y r) (hx : ¬ 1 < x.toNat) (hg : ((x.toNat : Int) == 1) = false) (hy : y.toNat ≤ r.size) (hq : Cut2 b (r.extract y.toNat r.size) u v z) (hz : z.size < u.toNat * 256 + v.toNat) :
    Calls Tryd.prog 62 #[.pointer (some ⟨b, 0, none⟩)] w (Good ⟨false, r.extract 0 y.toNat, ⟨#[]⟩⟩ false b s z w) := by
  have hu := Tryd.underlying45
  have HM := Aside0.mk (Mv.refl hb)
  have hlt := Aside0.mk (Array.getElem?_eq_some_iff.1 hb).1
  have HC := Aside0.mk hc
  have HY := Aside0.mk hy
  have d1 : decide (1 < x.toNat) = false := decide_eq_false hx
  have d2 : decide ((1 : Int) < (x.toNat : Int)) = false := decide_eq_false (by omega)
  have HQ := Aside0.mk hq
  have HZ := Aside0.mk hz
  clear hb hc hx hy hq hz
  go_enter Tryd.func62, Tryd.ntmps62
  go_upto_region 5 with (first
    | (refine box_lay 2 rfl rfl 45 rfl #[.bool false, .string ⟨#[]⟩, .string ⟨#[]⟩] (by kernel_rfl) ?_; intro gr HG w1 HK HW; have HM1 := Aside0.mk (HM.out.step hlt.out HW.out (Nat.le_refl _)))
    | (go_at_call 80; refine (HC.out _ HM1.out.1).mono ?_; rintro e w2 ⟨rfl, hw2⟩; have HM2 := Aside0.mk (HM1.out.cell r); have HK2 := Aside0.mk ((Below.heap_setCell w1 ⟨b, 0, none⟩ (.string r) gr (by have := HG.out; have := hlt.out; dsimp only; omega)).trans HK.out); rw [← hw2] at HM2 HK2; clear hw2)
    | (refine box_lay 6 rfl rfl 45 rfl #[.bool false, .string ⟨#[]⟩, .string ⟨#[]⟩] (by kernel_rfl) ?_; intro go HGo w3 HKo HW3; have HM3 := Aside0.mk (HM2.out.step hlt.out HW3.out HM2.out.size); have HK3 := Aside0.mk (blk_below HK2.out HW3.out); have HLo := Aside0.mk (show w.heap.size < go by have := HGo.out; have := HG.out; have := (Array.getElem?_eq_some_iff.1 HK2.out).1; omega))
    | (refine box_put rfl rfl 45 _ _ rfl go _ #[.bool false, .string ⟨#[]⟩, .string ⟨#[]⟩] rfl rfl HKo.out rfl rfl (by kernel_rfl) ?_; intro w4 HKo4 HW4 HO4 HS4; have HM4 := Aside0.mk (HM3.out.step hlt.out HW4.out (Nat.le_of_lt HLo.out)); have HK4 := Aside0.mk ((HO4.out gr (by have := HLo.out; have := HG.out; omega)).trans HK3.out)))
  go_upto_region 6 with (go_at_call 80; refine (cut_long b r y.toNat _ HM4.out.1 HY.out).mono ?_; rintro e w5 ⟨rfl, hw5⟩; have HM5 := Aside0.mk (HM4.out.cell (r.extract y.toNat r.size)); have HKo5 := Aside0.mk ((Below.heap_setCell w4 ⟨b, 0, none⟩ (.string (r.extract y.toNat r.size)) go (by have := HLo.out; have := hlt.out; dsimp only; omega)).trans HKo4.out); have HK5 := Aside0.mk ((Below.heap_setCell w4 ⟨b, 0, none⟩ (.string (r.extract y.toNat r.size)) gr (by have := HG.out; have := hlt.out; dsimp only; omega)).trans HK4.out); rw [← hw5] at HM5 HKo5 HK5; clear hw5; have c0 : w5.cell? ⟨go, 0, none⟩ = some (.bool false) := (blk_cell HKo5.out 0).trans rfl; have c1 : w5.cell? ⟨go, 1, none⟩ = some (.string ⟨#[]⟩) := (blk_cell HKo5.out 1).trans rfl; have c2 : w5.cell? ⟨go, 2, none⟩ = some (.string ⟨#[]⟩) := (blk_cell HKo5.out 2).trans rfl; have f1 := blk_frozen HKo5.out 1)
  have HM6 := Aside0.mk (HM5.out.step hlt.out ((Below.refl go w5).setCell (p := ⟨go, 1, none⟩) (Nat.le_refl _) (.string (r.extract 0 y.toNat))) (Nat.le_of_lt HLo.out))
  have HK6 := Aside0.mk ((Below.heap_setCell w5 ⟨go, 1, none⟩ (.string (r.extract 0 y.toNat)) gr (by have := HLo.out; have := HG.out; dsimp only; omega)).trans HK5.out)
  have HKo6 := Aside0.mk (blk_put (cs' := #[.bool false, .string (r.extract 0 y.toNat), .string ⟨#[]⟩]) HKo5.out 1 (.string (r.extract 0 y.toNat)) rfl)
  generalize hw6 : w5.setCell ⟨go, 1, none⟩ (.string (r.extract 0 y.toNat)) = w6 at *
  clear hw6 c0 c1 c2 f1
  have c0 : w6.cell? ⟨go, 0, none⟩ = some (.bool false) := (blk_cell HKo6.out 0).trans rfl
  have c1 : w6.cell? ⟨go, 1, none⟩ = some (.string (r.extract 0 y.toNat)) := (blk_cell HKo6.out 1).trans rfl
  have c2 : w6.cell? ⟨go, 2, none⟩ = some (.string ⟨#[]⟩) := (blk_cell HKo6.out 2).trans rfl
  go_upto_region 11 with (go_at_call 80; refine (HQ.out _ HM6.out.1).mono ?_; rintro e w8 ⟨rfl, hw8⟩; have HM8 := Aside0.mk (HM6.out.cell z); have HKo8 := Aside0.mk ((Below.heap_setCell w6 ⟨b, 0, none⟩ (.string z) go (by have := HLo.out; have := hlt.out; dsimp only; omega)).trans HKo6.out); have HK8 := Aside0.mk ((Below.heap_setCell w6 ⟨b, 0, none⟩ (.string z) gr (by have := HG.out; have := hlt.out; dsimp only; omega)).trans HK6.out); rw [← hw8] at HM8 HKo8 HK8; clear hw8)
  have c3 : w8.cell? ⟨go, 2, none⟩ = some (.string ⟨#[]⟩) := (blk_cell HKo8.out 2).trans rfl
  have f3 := blk_frozen HKo8.out 2
  have CZ := Aside0.mk (fun (W : World) (h : W.heap[b]? = some (.cells #[.string z] 9 (0, 0))) => cut_short b z (u.toNat * 256 + v.toNat) W h HZ.out)
  simp only [← num16] at CZ
  go_region_with (go_at_call 80; refine (CZ.out _ ?_).mono ?_; exact HM8.out.1; rintro e w9 ⟨rfl, rfl⟩)
  all_goals (
    (try simp only [Act.put, List.setIfInBounds_toArray, List.set_cons_zero, List.set_cons_succ])
    have HM9 := Aside0.mk (HM8.out.step hlt.out (((Below.refl go w8).setCell (p := ⟨go, 2, none⟩) (Nat.le_refl _) (.string ⟨#[]⟩)).drew) (Nat.le_of_lt HLo.out))
    have HK9 := Aside0.mk (blk_drew ((Below.heap_setCell (w8) ⟨go, 2, none⟩ (.string ⟨#[]⟩) gr (by have := HLo.out; have := HG.out; dsimp only; omega)).trans HK8.out))
    have HKo9 := Aside0.mk (blk_drew (blk_put (cs' := #[.bool false, .string (r.extract 0 y.toNat), .string ⟨#[]⟩]) HKo8.out 2 (.string ⟨#[]⟩) rfl))
    generalize hw9 : ((w8).setCell ⟨go, 2, none⟩ (.string ⟨#[]⟩)).drew = w9 at *
    clear hw9
    have e0 : w9.cell? ⟨go, 0, none⟩ = some (.bool false) := (blk_cell HKo9.out 0).trans rfl
    have e1 : w9.cell? ⟨go, 1, none⟩ = some (.string (r.extract 0 y.toNat)) := (blk_cell HKo9.out 1).trans rfl
    have e2 : w9.cell? ⟨go, 2, none⟩ = some (.string ⟨#[]⟩) := (blk_cell HKo9.out 2).trans rfl
    go_wp2_with (refine box_put rfl rfl 45 _ _ rfl gr _ #[.bool false, .string (r.extract 0 y.toNat), .string ⟨#[]⟩] rfl rfl HK9.out rfl rfl (by kernel_rfl) ?_; intro w7 HK7 HW7 HO7 HS7; have HM7 := Aside0.mk (HM9.out.step hlt.out HW7.out (Nat.le_of_eq HG.out.symm)))
    refine bodyPost_ret (res_first rfl HK7.out rfl) rfl ?_
    exact ⟨rfl, HM7.out⟩)
set_option maxHeartbeats 2000000 in
set_option maxRecDepth 100000 in
theorem first_g (b : Nat) (s r : ByteArray) (x y u v : UInt8) (z : ByteArray) (w : World) (hb : w.heap[b]? = some (.cells #[.string s] 9 (0, 0))) (hc : Cut2 b s x y r) (hx : ¬ 1 < x.toNat) (hg : ((x.toNat : Int) == 1) = false) (hy : y.toNat ≤ r.size) (hq : Cut2 b (r.extract y.toNat r.size) u v z) (m : Nat) (hm : u.toNat * 256 + v.toNat = m) (hz : m ≤ z.size) :
    Calls Tryd.prog 62 #[.pointer (some ⟨b, 0, none⟩)] w (Good ⟨false, r.extract 0 y.toNat, z.extract 0 m⟩ true b s (z.extract m z.size) w) := by
  have hu := Tryd.underlying45
  have HM := Aside0.mk (Mv.refl hb)
  have hlt := Aside0.mk (Array.getElem?_eq_some_iff.1 hb).1
  have HC := Aside0.mk hc
  have HY := Aside0.mk hy
  have d1 : decide (1 < x.toNat) = false := decide_eq_false hx
  have d2 : decide ((1 : Int) < (x.toNat : Int)) = false := decide_eq_false (by omega)
  have HQ := Aside0.mk hq
  have HZ := Aside0.mk hz
  clear hb hc hx hy hq hz
  go_enter Tryd.func62, Tryd.ntmps62
  go_upto_region 5 with (first
    | (refine box_lay 2 rfl rfl 45 rfl #[.bool false, .string ⟨#[]⟩, .string ⟨#[]⟩] (by kernel_rfl) ?_; intro gr HG w1 HK HW; have HM1 := Aside0.mk (HM.out.step hlt.out HW.out (Nat.le_refl _)))
    | (go_at_call 80; refine (HC.out _ HM1.out.1).mono ?_; rintro e w2 ⟨rfl, hw2⟩; have HM2 := Aside0.mk (HM1.out.cell r); have HK2 := Aside0.mk ((Below.heap_setCell w1 ⟨b, 0, none⟩ (.string r) gr (by have := HG.out; have := hlt.out; dsimp only; omega)).trans HK.out); rw [← hw2] at HM2 HK2; clear hw2)
    | (refine box_lay 6 rfl rfl 45 rfl #[.bool false, .string ⟨#[]⟩, .string ⟨#[]⟩] (by kernel_rfl) ?_; intro go HGo w3 HKo HW3; have HM3 := Aside0.mk (HM2.out.step hlt.out HW3.out HM2.out.size); have HK3 := Aside0.mk (blk_below HK2.out HW3.out); have HLo := Aside0.mk (show w.heap.size < go by have := HGo.out; have := HG.out; have := (Array.getElem?_eq_some_iff.1 HK2.out).1; omega))
    | (refine box_put rfl rfl 45 _ _ rfl go _ #[.bool false, .string ⟨#[]⟩, .string ⟨#[]⟩] rfl rfl HKo.out rfl rfl (by kernel_rfl) ?_; intro w4 HKo4 HW4 HO4 HS4; have HM4 := Aside0.mk (HM3.out.step hlt.out HW4.out (Nat.le_of_lt HLo.out)); have HK4 := Aside0.mk ((HO4.out gr (by have := HLo.out; have := HG.out; omega)).trans HK3.out)))
  go_upto_region 6 with (go_at_call 80; refine (cut_long b r y.toNat _ HM4.out.1 HY.out).mono ?_; rintro e w5 ⟨rfl, hw5⟩; have HM5 := Aside0.mk (HM4.out.cell (r.extract y.toNat r.size)); have HKo5 := Aside0.mk ((Below.heap_setCell w4 ⟨b, 0, none⟩ (.string (r.extract y.toNat r.size)) go (by have := HLo.out; have := hlt.out; dsimp only; omega)).trans HKo4.out); have HK5 := Aside0.mk ((Below.heap_setCell w4 ⟨b, 0, none⟩ (.string (r.extract y.toNat r.size)) gr (by have := HG.out; have := hlt.out; dsimp only; omega)).trans HK4.out); rw [← hw5] at HM5 HKo5 HK5; clear hw5; have c0 : w5.cell? ⟨go, 0, none⟩ = some (.bool false) := (blk_cell HKo5.out 0).trans rfl; have c1 : w5.cell? ⟨go, 1, none⟩ = some (.string ⟨#[]⟩) := (blk_cell HKo5.out 1).trans rfl; have c2 : w5.cell? ⟨go, 2, none⟩ = some (.string ⟨#[]⟩) := (blk_cell HKo5.out 2).trans rfl; have f1 := blk_frozen HKo5.out 1)
  have HM6 := Aside0.mk (HM5.out.step hlt.out ((Below.refl go w5).setCell (p := ⟨go, 1, none⟩) (Nat.le_refl _) (.string (r.extract 0 y.toNat))) (Nat.le_of_lt HLo.out))
  have HK6 := Aside0.mk ((Below.heap_setCell w5 ⟨go, 1, none⟩ (.string (r.extract 0 y.toNat)) gr (by have := HLo.out; have := HG.out; dsimp only; omega)).trans HK5.out)
  have HKo6 := Aside0.mk (blk_put (cs' := #[.bool false, .string (r.extract 0 y.toNat), .string ⟨#[]⟩]) HKo5.out 1 (.string (r.extract 0 y.toNat)) rfl)
  generalize hw6 : w5.setCell ⟨go, 1, none⟩ (.string (r.extract 0 y.toNat)) = w6 at *
  clear hw6 c0 c1 c2 f1
  have c0 : w6.cell? ⟨go, 0, none⟩ = some (.bool false) := (blk_cell HKo6.out 0).trans rfl
  have c1 : w6.cell? ⟨go, 1, none⟩ = some (.string (r.extract 0 y.toNat)) := (blk_cell HKo6.out 1).trans rfl
  have c2 : w6.cell? ⟨go, 2, none⟩ = some (.string ⟨#[]⟩) := (blk_cell HKo6.out 2).trans rfl
  go_upto_region 11 with (go_at_call 80; refine (HQ.out _ HM6.out.1).mono ?_; rintro e w8 ⟨rfl, hw8⟩; have HM8 := Aside0.mk (HM6.out.cell z); have HKo8 := Aside0.mk ((Below.heap_setCell w6 ⟨b, 0, none⟩ (.string z) go (by have := HLo.out; have := hlt.out; dsimp only; omega)).trans HKo6.out); have HK8 := Aside0.mk ((Below.heap_setCell w6 ⟨b, 0, none⟩ (.string z) gr (by have := HG.out; have := hlt.out; dsimp only; omega)).trans HK6.out); rw [← hw8] at HM8 HKo8 HK8; clear hw8)
  have c3 : w8.cell? ⟨go, 2, none⟩ = some (.string ⟨#[]⟩) := (blk_cell HKo8.out 2).trans rfl
  have f3 := blk_frozen HKo8.out 2
  have nm := num16 u v
  rw [hm] at nm
  have CZ := Aside0.mk (fun (W : World) (h : W.heap[b]? = some (.cells #[.string z] 9 (0, 0))) => cut_long b z m W h HZ.out)
  rw [← nm] at CZ
  have NBG := Aside0.mk (show go ≠ b by have := HLo.out; have := hlt.out; omega)
  have HM9 := Aside0.mk (HM8.out.cell (z.extract m z.size))
  have HKo9 := Aside0.mk ((Below.heap_setCell w8 ⟨b, 0, none⟩ (.string (z.extract m z.size)) go NBG.out).trans HKo8.out)
  have HK9 := Aside0.mk ((Below.heap_setCell w8 ⟨b, 0, none⟩ (.string (z.extract m z.size)) gr (by have := HG.out; have := hlt.out; dsimp only; omega)).trans HK8.out)
  have c4 : (w8.setCell ⟨b, 0, none⟩ (.string (z.extract m z.size))).cell? ⟨go, 2, none⟩ = some (.string ⟨#[]⟩) := (blk_cell HKo9.out 2).trans rfl
  have f4 := blk_frozen HKo9.out 2
  clear nm hm
  go_region_with (go_at_call 80; refine (CZ.out _ ?_).mono ?_; exact HM8.out.1; rintro e w9 ⟨rfl, rfl⟩)
  all_goals (
    (try simp only [Act.put, List.setIfInBounds_toArray, List.set_cons_zero, List.set_cons_succ])
    have HM10 := Aside0.mk (HM9.out.step hlt.out (((Below.refl go (w8.setCell ⟨b, 0, none⟩ (.string (z.extract m z.size)))).setCell (p := ⟨go, 2, none⟩) (Nat.le_refl _) (.string (z.extract 0 m))).drew) (Nat.le_of_lt HLo.out))
    have HK10 := Aside0.mk (blk_drew ((Below.heap_setCell (w8.setCell ⟨b, 0, none⟩ (.string (z.extract m z.size))) ⟨go, 2, none⟩ (.string (z.extract 0 m)) gr (by have := HLo.out; have := HG.out; dsimp only; omega)).trans HK9.out))
    have HKo10 := Aside0.mk (blk_drew (blk_put (cs' := #[.bool false, .string (r.extract 0 y.toNat), .string (z.extract 0 m)]) HKo9.out 2 (.string (z.extract 0 m)) rfl))
    generalize hw10 : ((w8.setCell ⟨b, 0, none⟩ (.string (z.extract m z.size))).setCell ⟨go, 2, none⟩ (.string (z.extract 0 m))).drew = w10 at *
    clear hw10
    have e0 : w10.cell? ⟨go, 0, none⟩ = some (.bool false) := (blk_cell HKo10.out 0).trans rfl
    have e1 : w10.cell? ⟨go, 1, none⟩ = some (.string (r.extract 0 y.toNat)) := (blk_cell HKo10.out 1).trans rfl
    have e2 : w10.cell? ⟨go, 2, none⟩ = some (.string (z.extract 0 m)) := (blk_cell HKo10.out 2).trans rfl
    go_wp2_with (refine box_put rfl rfl 45 _ _ rfl gr _ #[.bool false, .string (r.extract 0 y.toNat), .string (z.extract 0 m)] rfl rfl HK10.out rfl rfl (by kernel_rfl) ?_; intro w7 HK7 HW7 HO7 HS7; have HM7 := Aside0.mk (HM10.out.step hlt.out HW7.out (Nat.le_of_eq HG.out.symm)))
    refine bodyPost_ret (res_first rfl HK7.out rfl) rfl ?_
    exact ⟨rfl, HM7.out⟩)
theorem Cut2.of {b : Nat} {s : ByteArray} (h : ¬ s.size < 2) : Cut2 b s (s.get! 0) (s.get! 1) (s.extract 2 s.size) := fun W hW => cut2 b s W hW (by omega)
theorem first_calls (b : Nat) (s : ByteArray) (w : World) (hb : w.heap[b]? = some (.cells #[.string s] 9 (0, 0))) :
    Calls Tryd.prog 62 #[.pointer (some ⟨b, 0, none⟩)] w (Good (firstB s).1 (firstB s).2.1 b s (firstB s).2.2 w) := by
  unfold firstB
  by_cases h1 : s.size < 2
  · rw [if_pos h1]
    exact first_a b s w hb h1
  · rw [if_neg h1]
    have C := Cut2.of (b := b) h1
    generalize s.get! 0 = x at *
    generalize s.get! 1 = y at *
    generalize s.extract 2 s.size = r at *
    by_cases h2 : 1 < x.toNat
    · rw [if_pos h2]
      exact first_b b s r x y w hb C h2
    · rw [if_neg h2]
      by_cases h3 : r.size < y.toNat
      · rw [if_pos h3]
        exact first_c b s r x y _ w hb C h2 (by rw [Bool.eq_iff_iff]; simp only [beq_iff_eq]; omega) h3
      · rw [if_neg h3]
        by_cases h4 : x.toNat = 1
        · rw [if_pos h4]
          exact first_d b s r x y w hb C h2 (by simp only [beq_iff_eq]; omega) (by omega)
        · rw [if_neg h4]
          have hg : ((x.toNat : Int) == 1) = false := by
            rw [beq_eq_false_iff_ne]
            omega
          unfold firstB.firstC
          by_cases h5 : (r.extract y.toNat r.size).size < 2
          · rw [if_pos h5]
            exact first_e b s r x y w hb C h2 hg (by omega) h5
          · rw [if_neg h5]
            have C2 := Cut2.of (b := b) h5
            by_cases h6 : ((r.extract y.toNat r.size).extract 2 (r.extract y.toNat r.size).size).size < ((r.extract y.toNat r.size).get! 0).toNat * 256 + ((r.extract y.toNat r.size).get! 1).toNat
            · rw [if_pos h6]
              exact first_f b s r x y _ _ _ w hb C h2 hg (by omega) C2 h6
            · rw [if_neg h6]
              exact first_g b s r x y _ _ _ w hb C h2 hg (by omega) C2 _ rfl (by omega)
end Go.Proofs.YtnhhbmekjoanbaaDoor.P
namespace Go.Proofs.YtnhhbmekjoanbaaDoor.P
open Go.RowKit Go.Proofs.YtnhhbmekjoanbaaDoorW.PrintWords Go.Proofs.YtnhhbmekjoanbaaDoorW.PrintLast Go.Proofs.YtnhhbmekjoanbaaDoorW.PrintMore
attribute [local go_sem] max2_int min2_int max_two min_two max_three min_three max_four min_four
set_option linter.unusedVariables false
set_option linter.unusedSimpArgs false
theorem rdF_drop {l : List S49} {i : Nat} {x : S49} {r : List S49} (h : l.drop i = x :: r) : rd_T49 l (i : Int) = x ∧ i < l.length ∧ l.drop (i + 1) = r := by
  have hi : i < l.length := by
    apply Nat.lt_of_not_le
    intro c
    rw [List.drop_eq_nil_iff.2 c] at h; cases h
  rw [List.drop_eq_getElem_cons hi] at h
  have h1 := (List.cons.inj h).1
  have h2 := (List.cons.inj h).2
  refine ⟨?_, hi, h2⟩
  unfold rd_T49
  rw [Int.toNat_natCast, List.getD_eq_getElem?_getD, List.getElem?_eq_getElem hi]
  exact h1
/-- Where a path stands. -/
def idxF (p : ByteArray) : Nat → List S49 → Int
  | _, [] => -1
  | i, x :: r => if (x.f0.toList == p.toList) = true then (i : Int) else idxF p (i + 1) r
set_option maxHeartbeats 2000000 in
set_option maxRecDepth 100000 in
theorem get1_any (a b p : ByteArray) (B : Nat) (W : World) (hB : W.heap[B]? = some (.cells #[.string p] 9 (0, 0))) :
    Calls Tryd.prog 31 #[.agg #[.string a, .string b], .pointer (some ⟨B, 0, none⟩)] W fun e w' => e = .returned (.bool (a.toList == p.toList)) ∧ Below W.heap.size W w' := by
  have hu := Tryd.underlying49
  have hB2 := Aside0.mk (blk_below hB ((Below.refl _ W).alloc (Nat.le_refl _) (.cells #[.string a, .string b] 49)))
  clear hB
  have hq : (W.alloc (.cells #[.string a, .string b] 49)).cell? ⟨B, 0, none⟩ = some (.string p) := (blk_cell hB2.out 0).trans rfl
  go_enter Tryd.func31, Tryd.ntmps31
  go_wp2
  go_ret
  exact ⟨rfl, (Below.refl _ _).alloc (Nat.le_refl _) _⟩
set_option maxHeartbeats 8000000 in
set_option maxRecDepth 100000 in
theorem index_any (p : ByteArray) (B : Nat) (A0 : Option Addr) (c0 : Nat) (l : List S49) (w : World) (h0 : Kd.C k49 w A0 l.length l) (g0 : l.length ≤ c0) (hB : w.heap[B]? = some (.cells #[.string p] 9 (0, 0))) :
    Calls Tryd.prog 30 #[.slice A0 l.length c0, .func (.func 31) #[] #[.pointer (some ⟨B, 0, none⟩)]] w fun e w' => e = .returned (.int .i64 (idxF p 0 l)) ∧ Below w.heap.size w w' := by
  have H0 := Aside0.mk h0
  have G0 := Aside0.mk g0
  have HN := Aside0.mk h0.2.1
  have HBB := Aside0.mk hB
  have HB := Aside0.mk (Below.refl w.heap.size w)
  clear h0 g0 hB
  have hu := Tryd.underlying49
  go_enter Tryd.func30, Tryd.ntmps30
  go_wp2_with (fail)
  go_loopg [8] l.length (fun kq v8 W => ∃ (i : Nat), v8 = .int .i64 (i : Int) ∧ Aside0 (kq + i = l.length) ∧ Aside0 (idxF p i (l.drop i) = idxF p 0 l) ∧ Aside0 (Below w.heap.size w W))
  case atStart => exact ⟨0, rfl, ⟨by omega⟩, ⟨rfl⟩, HB⟩
  case round =>
    clear HB
    obtain ⟨i, rfl, HI, HX, HB⟩ := hrel
    cases gk with
    | zero =>
      have ei : i = l.length := by have := HI.out; omega
      subst ei
      have d0 : decide ((l.length : Int) < (l.length : Int)) = false := decide_eq_false (by omega)
      have hE := Aside0.mk (show idxF p 0 l = -1 from by rw [← HX.out, List.drop_of_length_le (Nat.le_refl _)]; rfl)
      go_wp2
      go_ret
      exact ⟨by rw [hE.out]; rfl, HB.out⟩
    | succ k1 =>
      have hlt : i < l.length := by have := HI.out; omega
      obtain ⟨x, r, hxr⟩ : ∃ x r, l.drop i = x :: r := ⟨_, _, List.drop_eq_getElem_cons hlt⟩
      obtain ⟨hx, -, hd⟩ := rdF_drop hxr
      have d0 : decide ((i : Int) < (l.length : Int)) = true := decide_eq_true (by omega)
      have d1 : decide (i < l.length) = true := decide_eq_true hlt
      have p0 : (0 : Int) ≤ (i : Int) := by omega
      have p1 : (i : Int) < (l.length : Int) := by omega
      have hw1 : IntKind.i64.wrap ((i : Int) + 1) = (i : Int) + 1 := by rw [IntKind.wrap_i64]; have := HN.out; omega
      obtain ⟨ad, e1, hx0, hx1⟩ := at_T49 (Kd.C_below H0.out HB.out) (i : Int) p0 p1
      rw [hx, Int.toNat_natCast] at hx0 hx1
      have HRW := Aside0.mk (show (if (x.f0.toList == p.toList) = true then (i : Int) else idxF p (i + 1) r) = idxF p 0 l from by rw [← HX.out, hxr, idxF])
      have HD := Aside0.mk hd
      have HLT := Aside0.mk hlt
      have HG := Aside0.mk (fun W hW => get1_any x.f0 x.f1 p B W hW)
      subst e1
      clear hx hxr hd hlt
      generalize hb0 : (x.f0.toList == p.toList) = b at *
      cases b with
      | true =>
        go_wp2_with (go_at_call 31; refine (HG.out _ (blk_below HBB.out HB.out)).mono ?_; rintro e w10 ⟨rfl, hb⟩; replace HB := Aside0.mk (below_step HB.out hb); clear hb)
        go_ret
        exact ⟨by rw [← HRW.out]; rfl, HB.out⟩
      | false =>
        go_wp2_with (go_at_call 31; refine (HG.out _ (blk_below HBB.out HB.out)).mono ?_; rintro e w10 ⟨rfl, hb⟩; replace HB := Aside0.mk (below_step HB.out hb); clear hb)
        go_roundg k1
        case measure => omega
        case rel => exact ⟨i + 1, by simp, ⟨by have := HI.out; omega⟩, ⟨by rw [HD.out]; exact HRW.out⟩, HB⟩
end Go.Proofs.YtnhhbmekjoanbaaDoor.P
set_option linter.unusedVariables false
set_option linter.unusedSimpArgs false
namespace Go.Proofs.YtnhhbmekjoanbaaDoor.P
open Go Go.RowKit
theorem leq_str (t : TypeId) (a b : ByteArray) : binOp .leq t (.string a) (.string b) = pure (.bool (!Op.bytesLess b.toList a.toList)) := by
  rw [binOp_string_leq, ← less_rev a.toList b.toList, Bool.not_not]
end Go.Proofs.YtnhhbmekjoanbaaDoor.P
namespace Go.Proofs.YtnhhbmekjoanbaaDoor.P
open Go.RowKit Go.Proofs.YtnhhbmekjoanbaaDoorW.PrintWords Go.Proofs.YtnhhbmekjoanbaaDoorW.PrintLast Go.Proofs.YtnhhbmekjoanbaaDoorW.PrintMore
set_option linter.unusedVariables false
def plainB (c : Int) : Bool := decide ((97 ≤ c ∧ c ≤ 122) ∨ (65 ≤ c ∧ c ≤ 90) ∨ (48 ≤ c ∧ c ≤ 57) ∨ c = 45 ∨ c = 95 ∨ c = 46)
theorem plain_f (c : Int) : files_plain.f c = some (plainB c) := by
  unfold files_plain.f plainB
  have e : (c == 46) = decide (c = 46) := rfl
  rw [e]
  repeat' split
  all_goals (congr 1; first | (symm; apply decide_eq_true; omega) | (apply decide_eq_decide.2; omega))
def partB (s : ByteArray) : Bool := (List.range s.size).all (fun i => plainB (bt s (i : Int))) && (!(s.toList == []) && (!(s.toList == [46]) && !(s.toList == [46, 46])))
theorem part_l0 (s : ByteArray) (hs : s.size ≤ 1000000) : ∀ (d i k : Nat), s.size - i = d → i ≤ s.size → d < k → files_part.l0 k s (s.size : Int) (i : Int) =
    some ((List.range' i d).all (fun i => plainB (bt s (i : Int))) && (!(s.toList == []) && (!(s.toList == [46]) && !(s.toList == [46, 46]))))
  | 0, i, k, hd, hi, hk => by
    obtain ⟨k, rfl⟩ : ∃ k', k = k' + 1 := ⟨k - 1, by omega⟩
    rw [files_part.l0, if_neg (by omega)]
    simp only [List.range'_zero, List.all_nil, Bool.true_and]
    by_cases h1 : s.toList = []
    · rw [if_pos h1, h1]; rfl
    · rw [if_neg h1]
      by_cases h2 : s.toList = [46]
      · rw [if_pos h2, h2]; rfl
      · rw [if_neg h2, beq_eq_false_iff_ne.2 h1, beq_eq_false_iff_ne.2 h2]
        rfl
  | d + 1, i, k, hd, hi, hk => by
    obtain ⟨k, rfl⟩ : ∃ k', k = k' + 1 := ⟨k - 1, by omega⟩
    rw [files_part.l0, if_pos (by omega), if_pos (by omega), if_pos (by omega), plain_f]
    simp only [Option.bind_some]
    rw [List.range'_succ, List.all_cons, gw64 (by omega) (by omega)]
    by_cases h : plainB (bt s (i : Int)) = true
    · rw [if_pos h, h, Bool.true_and]
      exact part_l0 s hs d (i + 1) k (by omega) (by omega) (by omega)
    · rw [if_neg h, Bool.eq_false_iff.2 h]
      simp only [Bool.false_and]
theorem part_f (s : ByteArray) (hs : s.size ≤ 1000000) (k : Nat) (hk : s.size < k) : files_part.f k s = some (partB s) := by
  unfold files_part.f partB
  have h := part_l0 s hs s.size 0 k (by omega) (by omega) hk
  rw [List.range_eq_range']
  exact h
end Go.Proofs.YtnhhbmekjoanbaaDoor.P
namespace Go.Proofs.YtnhhbmekjoanbaaDoor.P
open Go.RowKit Go.Proofs.YtnhhbmekjoanbaaDoorW.PrintWords Go.Proofs.YtnhhbmekjoanbaaDoorW.PrintLast Go.Proofs.YtnhhbmekjoanbaaDoorW.PrintMore Go.Proofs.YtnhhbmekjoanbaaDoor.Rg
attribute [local go_sem] Oper.semAt_some
set_option linter.unusedVariables false
set_option linter.unusedSimpArgs false
/-- The three captured variables: the text, the sign, how much of the sign is kept. -/
def SeqB (bs : Nat) (c : UInt8) (x : ByteArray) (W : World) : Prop :=
  W.heap[bs]? = some (.cells #[.string x] 9 (0, 0)) ∧ W.heap[bs + 1]? = some (.cells #[.string ⟨#[c]⟩] 9 (0, 0)) ∧ W.heap[bs + 2]? = some (.cells #[.int .i64 0] 3 (0, 0))
theorem SeqB.cells {bs : Nat} {c : UInt8} {x : ByteArray} {W : World} (h : SeqB bs c x W) : W.cell? ⟨bs, 0, none⟩ = some (.string x) ∧ W.cell? ⟨bs + 1, 0, none⟩ = some (.string ⟨#[c]⟩) ∧ W.cell? ⟨bs + 2, 0, none⟩ = some (.int .i64 0) ∧ W.frozen? ⟨bs, 0, none⟩ = false :=
  ⟨blk_cell h.1 0, blk_cell h.2.1 0, blk_cell h.2.2 0, blk_frozen h.1 0⟩
theorem SeqB.same {bs : Nat} {c : UInt8} {x : ByteArray} {W W' : World} (h : SeqB bs c x W) (hk : ∀ k, (bs ≤ k ∧ k < bs + 3) → W'.heap[k]? = W.heap[k]?) : SeqB bs c x W' :=
  ⟨(hk _ ⟨by omega, by omega⟩).trans h.1, (hk _ ⟨by omega, by omega⟩).trans h.2.1, (hk _ ⟨by omega, by omega⟩).trans h.2.2⟩
theorem SeqB.put {bs : Nat} {c : UInt8} {x : ByteArray} {W : World} (h : SeqB bs c x W) (y : ByteArray) : SeqB bs c y (W.setCell ⟨bs, 0, none⟩ (.string y)) :=
  ⟨blk_put h.1 0 _ rfl, blk_far h.2.1 (p := ⟨bs, 0, none⟩) (by simp) _, blk_far h.2.2 (p := ⟨bs, 0, none⟩) (by simp) _⟩
def leftS (b : Nat) (W : World) : Nat := match W.cell? ⟨b, 0, none⟩ with
  | some (.string x) => x.size
  | _ => 0
theorem leftS_eq {bs : Nat} {c : UInt8} {x : ByteArray} {W : World} (h : SeqB bs c x W) : leftS bs W = x.size := by
  unfold leftS; rw [h.cells.1]
set_option maxHeartbeats 8000000 in
set_option maxRecDepth 100000 in
theorem splitSeq_iter (n bs : Nat) (c : UInt8) (s : ByteArray) (hs : s.size ≤ 1000000) :
    Iter Tryd.prog n 63 #[.pointer (some ⟨bs + 1, 0, none⟩), .pointer (some ⟨bs, 0, none⟩), .pointer (some ⟨bs + 2, 0, none⟩)] (fun x : ByteArray => #[Value.string x]) (spl c s) bs (fun k => bs ≤ k ∧ k < bs + 3) (SeqB bs c s) := by
  intro l J Jx W hW cJ cX hY h0
  have HS := Aside0.mk hs
  have HY := Aside0.mk hY
  have h1 : (⟨#[c]⟩ : ByteArray).size = 1 := rfl
  clear hs hY
  refine callsIn_of_wp Tryd.func63 rfl trivial ?_ rfl
  simp only [Tryd.ntmps63, List.size_toArray, List.length_cons, List.length_nil, Nat.reduceAdd, Nat.reduceSub, Array.replicate_succ, Array.replicate_zero, List.push_toArray, List.append_toArray, List.nil_append, List.cons_append]
  obtain ⟨k0, k1, k2, k3⟩ := hW.cells
  have HB := Aside0.mk hW
  clear hW
  gi_wp2
  gi_loopw [7] (fun v7 wr => ∃ (x : ByteArray) (k : Nat) (done : List ByteArray), Aside0 (SeqB bs c x wr) ∧ Aside0 (J done wr) ∧ Aside0 (spl c s = done ++ pieces c k x ∧ cnt c x = k ∧ x.size ≤ s.size)) (fun _ wr => leftS bs wr)
  case atStart => exact ⟨s, cnt c s, [], HB, ⟨h0⟩, ⟨rfl, rfl, Nat.le_refl _⟩⟩
  case round =>
    clear HB k0 k1 k2 k3 h0
    obtain ⟨x, k, done, HB, HJ, HX⟩ := hrel
    obtain ⟨k0, k1, k2, k3⟩ := HB.out.cells
    have hxs : x.size ≤ 1000000 := Nat.le_trans HX.out.2.2 HS.out
    cases k with
    | zero =>
      have HI := Aside0.mk (cnt_none HX.out.2.1)
      obtain ⟨fn, tmps, assign, body, hy, hR⟩ := HY.out done x [] wr (by rw [HX.out.1]; rfl) HJ.out
      gi_wp2_with (first
        | (refine ⟨trivial, ?_⟩; gi_at_call 65; refine (callsIn_wide.2 (YtnhhbmekjoanbaaDoorS.strings_Index_one x c _)).mono ?_; rintro e w' ⟨rfl, hww⟩; subst w'; rw [HI.out]))
      refine hR.mono ?_
      rintro e W3 (⟨rfl, hJ3, hk3⟩ | ⟨rfl, hJx3⟩)
      · gi_wp2
        go_end0
        exact ⟨⟨_, rfl⟩, .inl (by have := HX.out.1; rw [pieces] at this; rw [this]; exact hJ3)⟩
      · gi_wp2
        go_end0
        exact ⟨⟨_, rfl⟩, .inr ⟨done, x, [], by rw [HX.out.1]; rfl, hJx3⟩⟩
    | succ k =>
      have hx := cnt_pos (c := c) (s := x) (by have := HX.out.2.1; omega)
      obtain ⟨m, hm⟩ : ∃ m, ix c x = m := ⟨_, rfl⟩
      rw [hm] at hx
      have HI := Aside0.mk hx.1
      have hmx := hx.2.1
      have hcx := Aside0.mk hx.2.2
      have HM := Aside0.mk hm
      have m0 : decide ((m : Int) < 0) = false := decide_eq_false (by omega)
      have m1 : (m : Int) ≤ (x.size : Int) := by omega
      have m2 : IntKind.i64.wrap (m : Int) = (m : Int) := by rw [IntKind.wrap_i64]; omega
      have m3 : IntKind.i64.wrap ((m : Int) + 1) = (m : Int) + 1 := by rw [IntKind.wrap_i64]; omega
      have m4 : (m : Int) + 1 ≤ (x.size : Int) := by omega
      have m5 : (0 : Int) ≤ (m : Int) + 1 := by omega
      have m6 : (0 : Int) ≤ (m : Int) := by omega
      obtain ⟨fn, tmps, assign, body, hy, hR⟩ := HY.out done (x.extract 0 m) (pieces c k (x.extract (m + 1) x.size)) wr (by rw [HX.out.1, pieces, HM.out]) HJ.out
      clear hx hm
      gi_wp2_with (first
        | (refine ⟨trivial, ?_⟩; gi_at_call 65; refine (callsIn_wide.2 (YtnhhbmekjoanbaaDoorS.strings_Index_one x c _)).mono ?_; rintro e w' ⟨rfl, hww⟩; subst w'; rw [HI.out]))
      refine hR.mono ?_
      rintro e W3 (⟨rfl, hJ3, hk3⟩ | ⟨rfl, hJx3⟩)
      · have HB3 := Aside0.mk (HB.out.same hk3)
        clear k0 k1 k2 k3 hk3
        obtain ⟨k0, k1, k2, k3⟩ := HB3.out.cells
        replace hJ3 := Aside0.mk hJ3
        gi_wp2
        go_roundw
        case rel => exact ⟨x.extract (m + 1) x.size, k, done ++ [x.extract 0 m], ⟨HB3.out.put _⟩, ⟨cJ.cell _ hJ3.out⟩, ⟨by rw [HX.out.1, pieces, HM.out, List.append_assoc]; rfl, by have := hcx.out; have := HX.out.2.1; omega, by rw [ByteArray.size_extract]; have := HX.out.2.2; omega⟩⟩
        case measure => rw [leftS_eq (HB3.out.put _), leftS_eq HB.out, ByteArray.size_extract]; omega
      · gi_wp2
        refine bodyPost_ret (results_none rfl _ _ _) rfl ?_
        exact ⟨⟨_, rfl⟩, .inr ⟨done, x.extract 0 m, pieces c k (x.extract (m + 1) x.size), by rw [HX.out.1, pieces, HM.out], hJx3⟩⟩
end Go.Proofs.YtnhhbmekjoanbaaDoor.P
namespace Go.Proofs.YtnhhbmekjoanbaaDoor.P
open Go.RowKit Go.Proofs.YtnhhbmekjoanbaaDoorW.PrintWords Go.Proofs.YtnhhbmekjoanbaaDoorW.PrintLast Go.Proofs.YtnhhbmekjoanbaaDoorW.PrintMore
attribute [local go_sem] max2_int min2_int max_two min_two max_three min_three max_four min_four
set_option linter.unusedVariables false
set_option linter.unusedSimpArgs false
/-- How two texts stand to one another. -/
def cmpS (a b : ByteArray) : Int := Lib.compareBytes a.data.toList b.data.toList
set_option maxHeartbeats 2000000 in
set_option maxRecDepth 100000 in
theorem byPath_any (a b p : ByteArray) (W : World) :
    Calls Tryd.prog 54 #[.agg #[.string a, .string b], .string p] W fun e w' => e = .returned (.int .i64 (cmpS a p)) ∧ Below W.heap.size W w' := by
  have hu := Tryd.underlying49
  have hB := Aside0.mk (blk_new W (.cells #[.string a, .string b] 49 (0, 0)))
  have c0 : (W.alloc (.cells #[.string a, .string b] 49 (0, 0))).cell? ⟨W.heap.size, 0, none⟩ = some (.string a) := (blk_cell hB.out 0).trans rfl
  go_enter Tryd.func54, Tryd.ntmps54
  go_wp2_with (go_at_call 43; refine (Tryd.strings_Compare a p _).mono ?_; rintro e w2 ⟨rfl, rfl⟩)
  go_ret
  exact ⟨rfl, (Below.refl _ _).alloc (Nat.le_refl _) _⟩
/-- The place that a search by halves finds. -/
def binF (l : List S49) (p : ByteArray) : Nat → Nat → Nat → Nat
  | 0, i, _ => i
  | k + 1, i, j => if i < j then (if cmpS (rd_T49 l (((i + j) / 2 : Nat) : Int)).f0 p < 0 then binF l p k ((i + j) / 2 + 1) j else binF l p k i ((i + j) / 2)) else i
set_option maxHeartbeats 4000000 in
set_option maxRecDepth 100000 in
theorem binary_any (p : ByteArray) (A0 : Option Addr) (c0 : Nat) (l : List S49) (w : World) (h0 : Kd.C k49 w A0 l.length l) (g0 : l.length ≤ c0) (hl : l.length ≤ 1000000) (at_ : Nat) (hat : binF l p l.length 0 l.length = at_) (is : Bool) (his : (decide (at_ < l.length) && (cmpS (rd_T49 l (at_ : Int)).f0 p == 0)) = is) :
    Calls Tryd.prog 53 #[.slice A0 l.length c0, .string p, .func (.func 54) #[] #[]] w fun e w' => e = .returned (.tuple #[.int .i64 (at_ : Int), .bool is]) ∧ Below w.heap.size w w' := by
  have H0 := Aside0.mk h0
  have G0 := Aside0.mk g0
  have HL := Aside0.mk hl
  have HI := Aside0.mk his
  have HB := Aside0.mk (Below.refl w.heap.size w)
  have HX := Aside0.mk hat
  clear h0 g0 hl his hat
  have hu := Tryd.underlying49
  go_enter Tryd.func53, Tryd.ntmps53
  go_wp2_with (fail)
  go_loopg [9, 10] l.length (fun kq v9 v10 W => ∃ (i j : Nat), v9 = .int .i64 (i : Int) ∧ v10 = .int .i64 (j : Int) ∧ Aside0 (i ≤ j ∧ j ≤ l.length ∧ j - i ≤ kq) ∧ Aside0 (binF l p kq i j = at_) ∧ Aside0 (Below w.heap.size w W))
  case atStart => exact ⟨0, l.length, rfl, rfl, ⟨by omega⟩, HX, HB⟩
  case round =>
    clear HB HX
    obtain ⟨i, j, rfl, rfl, HJ, HX, HB⟩ := hrel
    have hj := HJ.out
    have hll := HL.out
    by_cases hij : i < j
    · cases gk with
      | zero => omega
      | succ k1 =>
        have hx := HX.out
        rw [binF, if_pos hij] at hx
        clear HX
        have d0 : decide ((i : Int) < (j : Int)) = true := decide_eq_true (by omega)
        have d1 : decide (i < j) = true := decide_eq_true hij
        obtain ⟨m, hm⟩ : ∃ m, (i + j) / 2 = m := ⟨_, rfl⟩
        rw [hm] at hx
        have hmi : i ≤ m ∧ m < j := by omega
        obtain ⟨ad, e1, hy0, hy1⟩ := at_T49 (Kd.C_below H0.out HB.out) (m : Int) (by omega) (by omega)
        have em : ((i : Int) + (j : Int)) / 2 = (m : Int) := by omega
        have p0 : (0 : Int) ≤ (m : Int) := by omega
        have p1 : (m : Int) < (l.length : Int) := by omega
        have HM := Aside0.mk hmi
        have HMM := Aside0.mk hm
        clear hm hmi
        subst e1
        rw [Int.toNat_natCast] at hy0 hy1
        generalize hq : rd_T49 l (m : Int) = q at *
        obtain ⟨q0, q1⟩ := q
        dsimp only at hy0 hy1 hx
        have CB := Aside0.mk (byPath_any q0 q1 p)
        clear hq
        by_cases hc : cmpS q0 p < 0
        · rw [if_pos hc] at hx
          have HX := Aside0.mk hx
          have d2 : decide (cmpS q0 p < 0) = true := decide_eq_true hc
          clear hx hc
          go_wp2_with (go_at_call 54; refine (CB.out _).mono ?_; rintro e w2 ⟨rfl, hb⟩; have HB2 := Aside0.mk (below_step HB.out hb); clear hb)
          go_roundg k1
          case measure => omega
          case rel => exact ⟨m + 1, j, by first | rfl | (have := HM.out; rw [IntWalk.wrap64_in _ (by omega)]; rfl), rfl, ⟨by have := HM.out; omega⟩, HX, HB2⟩
        · rw [if_neg hc] at hx
          have HX := Aside0.mk hx
          have d2 : decide (cmpS q0 p < 0) = false := decide_eq_false hc
          clear hx hc
          go_wp2_with (go_at_call 54; refine (CB.out _).mono ?_; rintro e w2 ⟨rfl, hb⟩; have HB2 := Aside0.mk (below_step HB.out hb); clear hb)
          go_roundg k1
          case measure => omega
          case rel => exact ⟨i, m, rfl, rfl, ⟨by have := HM.out; omega⟩, HX, HB2⟩
    · have e9 : i = at_ := by
        have h := HX.out
        cases gk with
        | zero => exact h
        | succ k => rw [binF, if_neg hij] at h; exact h
      subst e9
      have d0 : decide ((i : Int) < (j : Int)) = false := decide_eq_false (by omega)
      have d1 : decide (i < j) = false := decide_eq_false hij
      clear HX
      by_cases hi : i < l.length
      · obtain ⟨ad, e1, hy0, hy1⟩ := at_T49 (Kd.C_below H0.out HB.out) (i : Int) (by omega) (by omega)
        subst e1
        rw [Int.toNat_natCast] at hy0 hy1
        have his := HI.out
        rw [decide_eq_true hi, Bool.true_and] at his
        clear HI
        generalize hq : rd_T49 l (i : Int) = q at *
        obtain ⟨q0, q1⟩ := q
        dsimp only at hy0 hy1 his
        have CB := Aside0.mk (byPath_any q0 q1 p)
        clear hq
        have p0 : (0 : Int) ≤ (i : Int) := by omega
        have p1 : (i : Int) < (l.length : Int) := by omega
        have d2 : decide ((i : Int) < (l.length : Int)) = true := decide_eq_true p1
        have d3 : decide (i < l.length) = true := decide_eq_true hi
        go_wp2_with (go_at_call 54; refine (CB.out _).mono ?_; rintro e w2 ⟨rfl, hb⟩; have HB2 := Aside0.mk (below_step HB.out hb); clear hb)
        go_ret2
        subst his
        exact ⟨rfl, HB2.out⟩
      · have his := HI.out
        rw [decide_eq_false hi, Bool.false_and] at his
        subst his
        have d2 : decide ((i : Int) < (l.length : Int)) = false := decide_eq_false (by omega)
        have d3 : decide (i < l.length) = false := decide_eq_false hi
        go_wp2_with (fail)
        go_ret2
        exact ⟨rfl, HB.out⟩
end Go.Proofs.YtnhhbmekjoanbaaDoor.P
namespace Go.Proofs.YtnhhbmekjoanbaaDoor.P
open Go.RowKit Go.Proofs.YtnhhbmekjoanbaaDoorW.PrintWords Go.Proofs.YtnhhbmekjoanbaaDoorW.PrintLast Go.Proofs.YtnhhbmekjoanbaaDoorW.PrintMore Go.Proofs.YtnhhbmekjoanbaaDoor.Rg
attribute [local go_sem] max2_int min2_int max_two min_two max_three min_three max_four min_four
attribute [local go_sem] Oper.semAt_some
set_option linter.unusedVariables false
set_option linter.unusedSimpArgs false
theorem firstB_size (s : ByteArray) (h : (firstB s).2.1 = true) : (firstB s).2.2.size + 2 ≤ s.size := by
  revert h
  unfold firstB
  split
  · intro h; cases h
  split
  · intro h; cases h
  split
  · intro h; cases h
  split
  · intro _
    simp only [ByteArray.size_extract] at *
    omega
  unfold firstB.firstC
  split
  · intro h; cases h
  split
  · intro h; cases h
  intro _
  simp only [ByteArray.size_extract] at *
  omega
/-- What each yields. -/
def eachF : Nat → ByteArray → List (S45 × Bool)
  | 0, _ => []
  | k + 1, s => if s.size = 0 then [] else if (firstB s).2.1 = true then ((firstB s).1, true) :: eachF k (firstB s).2.2 else [((firstB s).1, false)]
def encO (x : S45 × Bool) : Array Value := #[.agg #[.bool x.1.f0, .string x.1.f1, .string x.1.f2], .bool x.2]
theorem leftC_eq {b : Nat} {x : ByteArray} {W : World} (h : W.heap[b]? = some (.cells #[.string x] 9 (0, 0))) : leftS b W = x.size := by
  unfold leftS; rw [show W.cell? ⟨b, 0, none⟩ = some (.string x) from (blk_cell h 0).trans rfl]
theorem empty_of {x : ByteArray} (h : x.size = 0) : x.toList.isEmpty = true := by
  rw [List.isEmpty_iff, ← List.length_eq_zero_iff]
  rw [show x.toList.length = x.size from by rw [Go.ByteArray.toList_eq]; exact data_length x]
  exact h
theorem full_of {x : ByteArray} (h : x.size ≠ 0) : x.toList.isEmpty = false := by
  rw [Bool.eq_false_iff]
  intro c
  rw [List.isEmpty_iff, ← List.length_eq_zero_iff] at c
  rw [show x.toList.length = x.size from by rw [Go.ByteArray.toList_eq]; exact data_length x] at c
  exact h c
set_option maxHeartbeats 8000000 in
set_option maxRecDepth 100000 in
theorem each_iter (n bs : Nat) (s : ByteArray) :
    Iter Tryd.prog n 61 #[.pointer (some ⟨bs, 0, none⟩)] encO (eachF s.size s) bs (fun k => k = bs) (fun W => W.heap[bs]? = some (.cells #[.string s] 9 (0, 0))) := by
  intro l J Jx W hW cJ cX hY h0
  have HY := Aside0.mk hY
  clear hY
  refine callsIn_of_wp Tryd.func61 rfl trivial ?_ rfl
  simp only [Tryd.ntmps61, List.size_toArray, List.length_cons, List.length_nil, Nat.reduceAdd, Nat.reduceSub, Array.replicate_succ, Array.replicate_zero, List.push_toArray, List.append_toArray, List.nil_append, List.cons_append]
  have HB := Aside0.mk hW
  clear hW
  have hu := Tryd.underlying45
  gi_wp2
  gi_loopw [] (fun wr => ∃ (x : ByteArray) (k : Nat) (done : List (S45 × Bool)), Aside0 (wr.heap[bs]? = some (.cells #[.string x] 9 (0, 0))) ∧ Aside0 (J done wr) ∧ Aside0 (eachF s.size s = done ++ eachF k x ∧ x.size ≤ k)) (fun wr => leftS bs wr)
  case atStart => exact ⟨s, s.size, [], HB, ⟨h0⟩, ⟨rfl, Nat.le_refl _⟩⟩
  case round =>
    clear HB h0
    obtain ⟨x, k, done, HB, HJ, HX⟩ := hrel
    have k0 : wr.cell? ⟨bs, 0, none⟩ = some (.string x) := (blk_cell HB.out 0).trans rfl
    by_cases hx0 : x.size = 0
    · have e0 := empty_of hx0
      have HE := Aside0.mk (show eachF k x = [] by cases k with | zero => rfl | succ k => rw [eachF, if_pos hx0])
      gi_wp2
      go_end0
      exact ⟨⟨_, rfl⟩, .inl (by have h := HX.out.1; rw [HE.out, List.append_nil] at h; rw [h]; exact HJ.out)⟩
    · have e0 := full_of hx0
      cases k with
      | zero => exact absurd (Nat.le_zero.1 HX.out.2) hx0
      | succ k =>
        have hx := HX.out.1
        rw [eachF, if_neg hx0] at hx
        have CF := Aside0.mk (first_calls bs x wr HB.out)
        have hsz := firstB_size x
        have HK := Aside0.mk HX.out.2
        clear HX
        generalize hf : firstB x = f at *
        obtain ⟨⟨o0, o1, o2⟩, is, rest⟩ := f
        dsimp only at hx CF hsz
        clear hf
        have HSZ := Aside0.mk hsz
        clear hsz hx0
        cases is with
        | false =>
          rw [if_neg (by decide)] at hx
          have HX := Aside0.mk hx
          clear hx
          gi_wp2_with (refine ⟨trivial, ?_⟩; gi_at_call 62; refine (callsIn_wide.2 CF.out).mono ?_; rintro e W2 ⟨rfl, hm⟩; have HM := Aside0.mk hm; clear hm; have HJ2 := Aside0.mk (HM.out.calm cJ HJ.out); have HJ4 := Aside0.mk (cJ.grow HJ2.out ((Below.refl _ W2).alloc (Nat.le_refl _) (.cells #[.bool o0, .string o1, .string o2] 45 (0, 0)))); have HB4 := Aside0.mk (blk_below HM.out.1 ((Below.refl _ W2).alloc (Nat.le_refl _) (.cells #[.bool o0, .string o1, .string o2] 45 (0, 0)))); obtain ⟨fn, tmps, assign, body, hy, hR⟩ := HY.out done (⟨o0, o1, o2⟩, false) [] _ HX.out HJ4.out; dsimp only [encO] at hy)
          refine hR.mono ?_
          rintro e W3 (⟨rfl, hJ3, hk3⟩ | ⟨rfl, hJx3⟩)
          · gi_wp2
            refine bodyPost_ret (results_none rfl _ _ _) rfl ?_
            exact ⟨⟨_, rfl⟩, .inl (by rw [HX.out]; exact hJ3)⟩
          · gi_wp2
            refine bodyPost_ret (results_none rfl _ _ _) rfl ?_
            exact ⟨⟨_, rfl⟩, .inr ⟨done, _, [], HX.out, hJx3⟩⟩
        | true =>
          rw [if_pos rfl] at hx
          have HX := Aside0.mk hx
          clear hx
          gi_wp2_with (refine ⟨trivial, ?_⟩; gi_at_call 62; refine (callsIn_wide.2 CF.out).mono ?_; rintro e W2 ⟨rfl, hm⟩; have HM := Aside0.mk hm; clear hm; have HJ2 := Aside0.mk (HM.out.calm cJ HJ.out); have HJ4 := Aside0.mk (cJ.grow HJ2.out ((Below.refl _ W2).alloc (Nat.le_refl _) (.cells #[.bool o0, .string o1, .string o2] 45 (0, 0)))); have HB4 := Aside0.mk (blk_below HM.out.1 ((Below.refl _ W2).alloc (Nat.le_refl _) (.cells #[.bool o0, .string o1, .string o2] 45 (0, 0)))); obtain ⟨fn, tmps, assign, body, hy, hR⟩ := HY.out done (⟨o0, o1, o2⟩, true) (eachF k rest) _ HX.out HJ4.out; dsimp only [encO] at hy)
          refine hR.mono ?_
          rintro e W3 (⟨rfl, hJ3, hk3⟩ | ⟨rfl, hJx3⟩)
          · have HB3 := Aside0.mk ((hk3 bs rfl).trans HB4.out)
            replace hJ3 := Aside0.mk hJ3
            clear hk3
            gi_wp2
            go_roundw
            case rel => exact ⟨rest, k, done ++ [(⟨o0, o1, o2⟩, true)], HB3, hJ3, ⟨by rw [HX.out, List.append_assoc]; rfl, by have := HSZ.out trivial; have := HK.out; omega⟩⟩
            case measure => rw [leftC_eq HB3.out, leftC_eq HB.out]; have := HSZ.out trivial; omega
          · gi_wp2
            refine bodyPost_ret (results_none rfl _ _ _) rfl ?_
            exact ⟨⟨_, rfl⟩, .inr ⟨done, _, _, HX.out, hJx3⟩⟩
end Go.Proofs.YtnhhbmekjoanbaaDoor.P
namespace Go.Proofs.YtnhhbmekjoanbaaDoor.P
open Go.RowKit Go.Proofs.YtnhhbmekjoanbaaDoorW.PrintWords Go.Proofs.YtnhhbmekjoanbaaDoorW.PrintLast Go.Proofs.YtnhhbmekjoanbaaDoorW.PrintMore
attribute [local go_sem] max2_int min2_int max_two min_two max_three min_three max_four min_four
set_option linter.unusedVariables false
set_option linter.unusedSimpArgs false
def getB (p : ByteArray) : List S49 → ByteArray × Bool
  | [] => (⟨#[]⟩, false)
  | x :: r => if (x.f0.toList == p.toList) = true then (x.f1, true) else getB p r
theorem idx_get (p : ByteArray) : ∀ (l : List S49) (i : Nat), (idxF p i l = -1 ∧ getB p l = (⟨#[]⟩, false)) ∨ ∃ (j : Nat) (h : j < l.length), idxF p i l = ((i + j : Nat) : Int) ∧ getB p l = (l[j].f1, true)
  | [], i => .inl ⟨rfl, rfl⟩
  | x :: r, i => by
    rw [idxF, getB]
    by_cases h : (x.f0.toList == p.toList) = true
    · rw [if_pos h, if_pos h]
      exact .inr ⟨0, by simp, by simp, rfl⟩
    · rw [if_neg h, if_neg h]
      rcases idx_get p r (i + 1) with ⟨h1, h2⟩ | ⟨j, hj, h1, h2⟩
      · exact .inl ⟨h1, h2⟩
      · exact .inr ⟨j + 1, by rw [List.length_cons]; omega, by rw [h1]; omega, h2⟩
theorem rdF_get (l : List S49) (j : Nat) (h : j < l.length) : rd_T49 l (j : Int) = l[j] := by
  unfold rd_T49
  rw [Int.toNat_natCast, List.getD_eq_getElem?_getD, List.getElem?_eq_getElem h]
  rfl
def files_Get.f (l : List S49) (p : ByteArray) : Option (ByteArray × Bool) := some (getB p l)
set_option maxHeartbeats 8000000 in
set_option maxRecDepth 100000 in
theorem files_Get.calls (A0 : Option Addr) (c0 : Nat) (l0 : List S49) (a1 : ByteArray) (r1 : ByteArray) (r2 : Bool) (w : World) (hr0 : Kd.C k49 w A0 l0.length l0) (hc0 : l0.length ≤ c0) (h : files_Get.f l0 a1 = some (r1, r2)) :
    Calls Tryd.prog 12 #[.slice A0 l0.length c0, .string a1] w fun e w' => e = .returned (.tuple #[.string r1, .bool r2]) ∧ Below w.heap.size w w' := by
  have hg := Option.some.inj h
  clear h
  have H0 := Aside0.mk hr0
  have G0 := Aside0.mk hc0
  have hu := Tryd.underlying49
  have hmf : ∀ (fn : Fn) (first cap : Array Value) (w : World), (Instr.makeFunc fn first cap).run Tryd.prog w = .ok (.func fn first cap) w := fun _ _ _ _ => rfl
  have b1 : Below w.heap.size w (w.alloc (.cells #[.string a1] 9)) := (Below.refl _ w).alloc (Nat.le_refl _) _
  have CI := Aside0.mk (index_any a1 w.heap.size A0 c0 l0 (w.alloc (.cells #[.string a1] 9)) (Kd.C_below hr0 b1) hc0 (blk_new w _))
  have B1 := Aside0.mk b1
  clear hr0 hc0 b1
  rcases idx_get a1 l0 0 with ⟨h1, h2⟩ | ⟨j, hj, h1, h2⟩
  · rw [h2] at hg
    obtain ⟨rfl, rfl⟩ := Prod.mk.inj hg
    rw [h1] at CI
    clear hg h1 h2
    go_enter Tryd.func12, Tryd.ntmps12
    go_wp2_with (go_at_call 30; refine CI.out.mono ?_; rintro e w2 ⟨rfl, hb⟩; have HB := Aside0.mk (below_step B1.out hb); clear hb)
    go_ret2
    exact ⟨rfl, HB.out⟩
  · rw [h2] at hg
    obtain ⟨g1, rfl⟩ := Prod.mk.inj hg
    rw [h1, Nat.zero_add] at CI
    have HX := Aside0.mk (show (rd_T49 l0 (j : Int)).f1 = r1 from by rw [rdF_get l0 j hj]; exact g1)
    have p1 : (j : Int) < (l0.length : Int) := by omega
    have p0 : (0 : Int) ≤ (j : Int) := by omega
    have n0 : decide ((j : Int) < 0) = false := decide_eq_false (by omega)
    clear hg h1 h2 hj g1
    go_enter Tryd.func12, Tryd.ntmps12
    go_wp2_with (go_at_call 30; refine CI.out.mono ?_; rintro e w2 ⟨rfl, hb⟩; have HB := Aside0.mk (below_step B1.out hb); clear hb; obtain ⟨ad, e1, hx0, hx1⟩ := at_T49 (Kd.C_below H0.out HB.out) _ p0 p1; rw [Int.toNat_natCast] at hx0 hx1; subst e1)
    go_ret2
    exact ⟨by rw [← HX.out]; rfl, HB.out⟩
end Go.Proofs.YtnhhbmekjoanbaaDoor.P
namespace Go.Proofs.YtnhhbmekjoanbaaDoor.P
open Go Go.RowKit Go.Proofs.YtnhhbmekjoanbaaDoorW.PrintWords Go.Proofs.YtnhhbmekjoanbaaDoorW.PrintLast Go.Proofs.YtnhhbmekjoanbaaDoorW.PrintMore
set_option linter.unusedVariables false
/-- ALL IS READ BEFORE ANYTHING IS WRITTEN: 'cs' is what src held before the call; elements of any size. -/
theorem run_copy_cellsK {P : Program} (w : World) (dT sT ty elem : TypeId) (s b o dLen dCap : Nat) (a : Addr) (sLen sCap m : Nat) (cs : List Value)
    (hu : P.underlying dT = some (.slice elem)) (hs : (P.info? elem).map (·.size) = some s) (hm : Nat.min sLen dLen = m) (hn : cs.length = m * s)
    (hsrc : ∀ j v, cs[j]? = some v → w.cell? (a.add j) = some v) (hc : ∀ j, j < cs.length → (w.cell? ⟨b, o + j, none⟩).isSome = true) (hf : ∀ j, j < cs.length → w.frozen? ⟨b, o + j, none⟩ = false) (h1 : ∀ v ∈ cs, v.oneCell' = true) :
    (Builtin.copy_ #[dT, sT] ty #[.slice (some ⟨b, o, none⟩) dLen dCap, .slice (some a) sLen sCap]).run P w = .ok (goInt m) (w.setCells b o cs) := by
  have hl := run_loadCells_list (P := P) w a cs hsrc
  have hst := run_storeCells_cells (P := P) b o cs 0 w (by simpa using hc) (by simpa using hf) h1
  cases hq : P.info? elem with
  | none => simp [hq] at hs
  | some i =>
    have hi : i.size = s := by simpa [hq] using hs
    simp [Builtin.copy_, run_underlying hu, Builtin.lenOf, Builtin.firstCells, sizeOf, typeInfo, hq, hi, hm, ← hn, hl, hst]
theorem run_clear_cellsK {P : Program} (w : World) (t e ty : TypeId) (z : Value) (ht : P.underlying t = some (.slice e)) (hv : ∀ w, (zeroValue e).run P w = .ok z w) (b o n c : Nat) (hn : 0 < n)
    (zs : List Value) (hz : (Builtin.zeroCells z.cells n).toList = zs) (hc : ∀ j, j < zs.length → (w.cell? ⟨b, o + j, none⟩).isSome = true) (hf : ∀ j, j < zs.length → w.frozen? ⟨b, o + j, none⟩ = false) (h1 : ∀ v ∈ zs, v.oneCell' = true) :
    (Builtin.clear_ #[t] ty #[.slice (some ⟨b, o, none⟩) n c]).run P w = .ok (.tuple #[]) (w.setCells b o zs) := by
  have hst := run_storeCells_cells (P := P) b o zs 0 w (by simpa using hc) (by simpa using hf) h1
  cases n with
  | zero => omega
  | succ n => simp [Builtin.clear_, run_underlying ht, hv, hz, hst]
theorem wp_copy_runJ {P : Program} (w : World) {o : Oper} {a : Act} {K : Act → World → Prop} {Q : Exit → Act → World → Prop} (d s : Operand) (t t' : TypeId)
    (ho : o.op = .call { callee := .builtin .copy, args := #[d, s], argTypes := #[t, t'] }) (v u : Value) (hd : a.eval d = v) (hs : a.eval s = u) {v' : Value} {w' : World}
    (hr : (Builtin.copy_ #[t, t'] o.type #[v, u]).run P w = .ok v' w') (h : K (a.put o.dst v') w') : o.wp P a w K Q := by
  unfold Oper.wp execOp
  simp only [ho, resolve, invoke, builtin, Sem.run_bind, Sem.run_pure, Result.andThen_ok, List.map_toArray, List.map_cons, List.map_nil, hd, hs, hr]
  exact h
theorem wpList_copy_runJ {P : Program} (w : World) {ops : Array Oper} {rest : List Oper} {o : Oper} {a : Act} {Q : Exit → Act → World → Prop} (hgd : o.guard = none) (d s : Operand) (t t' : TypeId)
    (ho : o.op = .call { callee := .builtin .copy, args := #[d, s], argTypes := #[t, t'] }) (v u : Value) (hd : a.eval d = v) (hs : a.eval s = u) {v' : Value} {w' : World}
    (hr : (Builtin.copy_ #[t, t'] o.type #[v, u]).run P w = .ok v' w') (h : wpList P ops Q rest (a.put o.dst v') w') : wpList P ops Q (o :: rest) a w :=
  wpList_plain hgd fun _ hK => wp_copy_runJ w d s t t' ho v u hd hs hr (hK _ _ h)
/-- .. and as one step of a region that draws (for 'go_region_law_o'). -/
theorem step_copy_runJ {P : Program} {ops : Array Oper} {o : Oper} {a : Act} {w : World} {K : Act → World → Prop} {Q : Exit → Act → World → Prop} {E : Prop}
    (hg : o.guard = none) (d x : Operand) (dT sT : TypeId) (hop : o.op = Op.call { callee := Callee.builtin Builtin.copy, args := #[d, x], argTypes := #[dT, sT] })
    (v u : Value) (hd : a.eval d = v) (hx : a.eval x = u) {v' : Value} {w' : World} (hr : (Builtin.copy_ #[dT, sT] o.type #[v, u]).run P w = .ok v' w') (hK : K (a.put o.dst v') w') :
    if Region.wanted o (yielded ops a.tmps) = true then Oper.wp P o a w K Q else E := by
  have hw : Region.wanted o (yielded ops a.tmps) = true := by simp [Region.wanted, hg]
  rw [if_pos hw]
  unfold Oper.wp
  simp [execOp, hop, resolve, invoke, builtin, hd, hx, hr, Result.andThen]
  exact hK
theorem step_append_runJ {P : Program} {ops : Array Oper} {o : Oper} {a : Act} {w : World} {K : Act → World → Prop} {Q : Exit → Act → World → Prop} {E : Prop}
    (hg : o.guard = none) (d x : Operand) (dT sT : TypeId) (hop : o.op = Op.call { callee := Callee.builtin Builtin.append, args := #[d, x], argTypes := #[dT, sT] })
    (v u : Value) (hd : a.eval d = v) (hx : a.eval x = u) {v' : Value} {w' : World} (hr : (Builtin.append_ #[dT, sT] o.type #[v, u]).run P w = .ok v' w') (hK : K (a.put o.dst v') w') :
    if Region.wanted o (yielded ops a.tmps) = true then Oper.wp P o a w K Q else E := by
  have hw : Region.wanted o (yielded ops a.tmps) = true := by simp [Region.wanted, hg]
  rw [if_pos hw]
  unfold Oper.wp
  simp [execOp, hop, resolve, invoke, builtin, hd, hx, hr, Result.andThen]
  exact hK
def encF (x : S49) : List Value := [.string x.f0, .string x.f1]
def flatF (xs : List S49) : List Value := (xs.map encF).flatten
theorem flatF_cons (x : S49) (xs : List S49) : flatF (x :: xs) = encF x ++ flatF xs := rfl
theorem flatF_append (xs ys : List S49) : flatF (xs ++ ys) = flatF xs ++ flatF ys := by unfold flatF; rw [List.map_append, List.flatten_append]
theorem flatF_length : ∀ xs : List S49, (flatF xs).length = xs.length * 2
  | [] => rfl
  | x :: r => by rw [flatF_cons, List.length_append, flatF_length r, List.length_cons]; show 2 + _ = _; omega
theorem flatF_take : ∀ (xs : List S49) (i : Nat), (flatF xs).take (i * 2) = flatF (xs.take i)
  | [], i => by simp [flatF]
  | x :: r, 0 => by simp [flatF]
  | x :: r, i + 1 => by
    rw [flatF_cons, List.take_succ_cons, flatF_cons, ← flatF_take r i, List.take_append, show (encF x).length = 2 from rfl, List.take_of_length_le (by show 2 ≤ _; omega)]
    congr 2; omega
theorem flatF_drop : ∀ (xs : List S49) (i : Nat), (flatF xs).drop (i * 2) = flatF (xs.drop i)
  | [], i => by simp [flatF]
  | x :: r, 0 => by simp [flatF]
  | x :: r, i + 1 => by
    rw [flatF_cons, List.drop_succ_cons, ← flatF_drop r i, List.drop_append, show (encF x).length = 2 from rfl, List.drop_of_length_le (by show 2 ≤ _; omega), List.nil_append]
    congr 1; omega
theorem flatF_one (xs : List S49) : ∀ u ∈ flatF xs, u.oneCell' = true := by
  intro u hu
  unfold flatF at hu
  rw [List.mem_flatten] at hu
  obtain ⟨l, hl, h⟩ := hu
  obtain ⟨x, _, rfl⟩ := List.mem_map.1 hl
  simp [encF] at h
  rcases h with rfl | rfl <;> rfl
theorem repsF_flat {w : World} {base : Nat} {ok : Nat → Prop} : ∀ (xs : List S49) (inner : List Value), Reps (k49.M w base ok) 2 xs inner → inner = flatF xs
  | [], inner, h => by
    have := h.1
    simp at this
    rw [this]; rfl
  | x :: r, inner, h => by
    have h0 := k49_openM (h.2 0 x rfl)
    rw [Nat.zero_mul, List.drop_zero] at h0
    have hr : Reps (k49.M w base ok) 2 r (inner.drop 2) := by
      refine ⟨by have := h.1; rw [List.length_drop, this, List.length_cons]; omega, fun j p hp => ?_⟩
      have h2 := h.2 (j + 1) p hp
      rw [List.drop_drop, show 2 + j * 2 = (j + 1) * 2 by omega]
      exact h2
    rw [flatF_cons, ← repsF_flat r _ hr, encF, ← h0, List.take_append_drop]
theorem flatF_reps' (w : World) (base : Nat) (ok : Nat → Prop) : ∀ (ys pre : List S49) (inner : List Value), Reps (k49.M w base ok) 2 pre inner → Reps (k49.M w base ok) 2 (pre ++ ys) (inner ++ flatF ys)
  | [], pre, inner, h => by simpa [flatF] using h
  | y :: r, pre, inner, h => by
    have h1 := flatF_reps' w base ok r (pre ++ [y]) (inner ++ encF y) (Reps.snoc h (k49_mkM w base ok y) rfl)
    rw [List.append_assoc, List.append_assoc] at h1
    exact h1
theorem flatF_reps (w : World) (base : Nat) (ok : Nat → Prop) (ys : List S49) : Reps (k49.M w base ok) 2 ys (flatF ys) :=
  flatF_reps' w base ok ys [] [] (Reps.none _ _)
/-- A row of files of one's own. -/
def OwnF (w : World) (base : Nat) (v : Value) (xs : List S49) : Prop := w.ownsRow base 49 2 v xs.length (flatF xs)
theorem OwnF.of {w : World} {base : Nat} {ok : Nat → Prop} {v : Value} {xs : List S49} (h : Kd.R k49 49 w base ok v xs) : OwnF w base v xs := by
  obtain ⟨_, inner, ho, hr⟩ := h
  rw [repsF_flat xs inner hr] at ho
  exact ho
theorem OwnF.to {w : World} {base : Nat} {v : Value} {xs : List S49} (h : OwnF w base v xs) : Kd.R k49 49 w base (fun _ => True) v xs :=
  ⟨fun _ _ => trivial, _, h, flatF_reps _ _ _ _⟩
theorem OwnF.mk {w : World} {base g c : Nat} {cur : Array Value} {xs : List S49} (hb : base ≤ g) (hh : w.heap[g]? = some (.cells cur 49 (0, 0))) (hn : xs.length ≤ c) (hc : c ≤ maxLen) (hs : cur.size = c * 2) (ht : cur.toList.take (xs.length * 2) = flatF xs) :
    OwnF w base (.slice (some ⟨g, 0, none⟩) xs.length c) xs := ⟨flatF_length xs, .inr ⟨g, c, cur, rfl, hb, hh, hn, hc, hs, ht⟩⟩
theorem OwnF.open {w : World} {base g n c : Nat} {xs : List S49} (h : OwnF w base (.slice (some ⟨g, 0, none⟩) n c) xs) : n = xs.length ∧ base ≤ g ∧ ∃ cur : Array Value, w.heap[g]? = some (.cells cur 49 (0, 0)) ∧ xs.length ≤ c ∧ c ≤ maxLen ∧ cur.size = c * 2 ∧ cur.toList.take (xs.length * 2) = flatF xs := by
  rcases h.2 with ⟨h1, _⟩ | ⟨g', c', cur, h1, h2, h3, h4, h5, h6, h7⟩
  · cases h1
  · injection h1 with ha hb hc
    injection ha with ha
    injection ha with ha
    subst ha; subst hc
    exact ⟨hb, h2, cur, h3, h4, h5, h6, h7⟩
theorem OwnF.form {w : World} {base : Nat} {v : Value} {xs : List S49} (h : OwnF w base v xs) : (v = .slice none 0 0 ∧ xs = []) ∨ ∃ g c, v = .slice (some ⟨g, 0, none⟩) xs.length c := by
  rcases h.2 with ⟨h1, h2⟩ | ⟨g', c', cur, h1, _⟩
  · exact .inl ⟨h1, List.eq_nil_of_length_eq_zero h2⟩
  · exact .inr ⟨g', c', h1⟩
/-- Cells written behind the row's elements. -/
theorem OwnF.past {w : World} {base g n c o : Nat} {xs : List S49} (h : OwnF w base (.slice (some ⟨g, 0, none⟩) n c) xs) (news : List Value) (ho : xs.length * 2 ≤ o) (hf : o + news.length ≤ c * 2) : OwnF (w.setCells g o news) base (.slice (some ⟨g, 0, none⟩) n c) xs := by
  obtain ⟨rfl, hb, cur, hh, hn, hc, hs, ht⟩ := h.open
  obtain ⟨cur', h3, h4, h5⟩ := setCells_row news o w cur hh (by omega)
  refine OwnF.mk hb h3 hn hc (by rw [h4, hs]) ?_
  have hl : cur.toList.length = c * 2 := by simp [hs]
  rw [h5, List.take_append_of_le_length (by rw [List.length_append, List.length_take, hl]; omega), List.take_append_of_le_length (by rw [List.length_take, hl]; omega), List.take_take, Nat.min_eq_left ho, ht]
theorem grown_setCells (w : World) (g o : Nat) (news : List Value) : w.grownBy (w.setCells g o news) (some g) := by
  obtain ⟨s1, s2, s3, s4⟩ := setCells_same g news o w
  exact ⟨s1, s2, s3, by rw [s4]; exact Nat.le_refl _, fun k' _ hk' => setCells_far news _ k' (fun he => hk' (by rw [he]))⟩
end Go.Proofs.YtnhhbmekjoanbaaDoor.P
namespace Go.Proofs.YtnhhbmekjoanbaaDoor.P
open Go.RowKit Go.Proofs.YtnhhbmekjoanbaaDoorW.PrintWords Go.Proofs.YtnhhbmekjoanbaaDoorW.PrintLast Go.Proofs.YtnhhbmekjoanbaaDoorW.PrintMore Go.Proofs.YtnhhbmekjoanbaaDoor.Rg
attribute [local go_sem] Oper.semAt_some
set_option linter.unusedVariables false
set_option linter.unusedSimpArgs false
def pathB (s : ByteArray) : Bool := decide (s.size ≤ 60) && (spl 47 s).all partB
set_option maxHeartbeats 4000000 in
set_option maxRecDepth 100000 in
theorem splitSeq_calls (s : ByteArray) (c : UInt8) (w : World) : Calls Tryd.prog 32 #[.string s, .string ⟨#[c]⟩] w fun e w' =>
    e = .returned (.func (.func 63) #[] #[.pointer (some ⟨w.heap.size + 1, 0, none⟩), .pointer (some ⟨w.heap.size, 0, none⟩), .pointer (some ⟨w.heap.size + 2, 0, none⟩)]) ∧ w' = ((w.alloc (.cells #[.string s] 9)).alloc (.cells #[.string ⟨#[c]⟩] 9)).alloc (.cells #[.int .i64 0] 3) := by
  go_enter Tryd.func32, Tryd.ntmps32
  have hmf : ∀ (fn : Fn) (first cap : Array Value) (w : World), (Instr.makeFunc fn first cap).run Tryd.prog w = .ok (.func fn first cap) w := fun _ _ _ _ => rfl
  go_wp2
  go_ret
  exact ⟨rfl, rfl⟩
theorem KeepsOthers.of_below {W W' : World} (hb : Below W.heap.size W W') : KeepsOthers W W' := ⟨hb.size, fun k o hk _ => (hb.block k (heap_lt hk)).trans hk⟩
theorem res_cell2 {tmps : Array Value} {W : World} {r : Nat} {b : Bool} (ht : tmps.getD 2 undef = .pointer (some ⟨r, 0, none⟩)) (h0 : W.cell? ⟨r, 0, none⟩ = some (.bool b)) : (results Tryd.f14 tmps).run Tryd.prog W = .ok (.bool b) W := by
  have e : Tryd.f14.results = #[.cell 2 4] := rfl
  unfold results
  rw [e]
  simp only [List.mapM_toArray, Array.mapM_eq_mapM_toList, List.mapM_cons, List.mapM_nil, ht]
  go_simp
def PathI (w : World) (q : ByteArray → Bool) (pre : List ByteArray) (W : World) : Prop :=
  W.heap[w.heap.size]? = some (.cells #[.bool false] 4 (0, 0)) ∧ Below w.heap.size w W ∧ pre.all q = true
def PathX (w : World) (q : ByteArray → Bool) (pre : List ByteArray) (W : World) : Prop :=
  W.heap[w.heap.size]? = some (.cells #[.bool false] 4 (0, 0)) ∧ Below w.heap.size w W ∧ pre.all q = false
set_option maxHeartbeats 8000000 in
set_option maxRecDepth 100000 in
theorem path_in (s : ByteArray) (hs : s.size ≤ 60) (w : World) : Calls Tryd.prog 14 #[.string s] w fun e w' => e = .returned (.bool ((spl 47 s).all partB)) ∧ Below w.heap.size w w' := by
  have HS := Aside0.mk (show s.size ≤ 1000000 by omega)
  have c60 : decide ((s.size : Int) > 60) = false := decide_eq_false (by omega)
  have c60' : decide (60 < s.size) = false := decide_eq_false (by omega)
  have c60'' : decide (60 < (s.size : Int)) = false := decide_eq_false (by omega)
  have HW := Aside0.mk (fun (x : ByteArray) (W : World) (hx : x.size ≤ 1000000) => (show Calls Tryd.prog 33 #[.string x] W fun e W' => e = .returned (.bool (partB x)) ∧ ∃ n, W' = W.drewN n from
    (files_part.calls 1000001 x (partB x) W (part_f x hx _ (by omega))).mono fun _ _ ⟨he, hd⟩ => ⟨he, hd.out⟩))
  clear hs
  refine (callsIn_wide (n := 3)).1 ?_
  refine callsIn_of_wp_marks Tryd.func14 rfl trivial ?_ rfl
  simp only [Tryd.ntmps14, List.size_toArray, List.length_cons, List.length_nil, Nat.reduceAdd, Nat.reduceSub, Array.replicate_succ, Array.replicate_zero, List.push_toArray, List.append_toArray, List.nil_append, List.cons_append]
  gi_wp2_with (refine ⟨trivial, ?_⟩; gi_at_call 32; refine (callsIn_wide.2 (splitSeq_calls s 47 _)).mono ?_; rintro e w' ⟨rfl, rfl⟩)
  have n1 : Below w.heap.size w (w.alloc (.cells #[.bool false] 4)) := (Below.refl _ w).alloc (Nat.le_refl _) _
  have n2 := ((n1.alloc (by simp) (.cells #[.string s] 9)).alloc (by simp; omega) (.cells #[.string ⟨#[47]⟩] 9)).alloc (by simp; omega) (.cells #[.int .i64 0] 3)
  have E0 : PathI w partB [] ((((w.alloc (.cells #[.bool false] 4)).alloc (.cells #[.string s] 9)).alloc (.cells #[.string ⟨#[47]⟩] 9)).alloc (.cells #[.int .i64 0] 3)) := by
    refine ⟨?_, n2, rfl⟩
    exact blk_alloc (blk_alloc (blk_alloc (blk_new w _) _) _) _
  have S0 : SeqB (w.heap.size + 1) 47 s ((((w.alloc (.cells #[.bool false] 4)).alloc (.cells #[.string s] 9)).alloc (.cells #[.string ⟨#[47]⟩] 9)).alloc (.cells #[.int .i64 0] 3)) := by
    refine ⟨?_, ?_, ?_⟩
    · refine blk_alloc (blk_alloc ?_ _) _
      have := blk_new (w.alloc (.cells #[.bool false] 4)) (.cells #[.string s] 9)
      rwa [World.size_alloc] at this
    · refine blk_alloc ?_ _
      have := blk_new ((w.alloc (.cells #[.bool false] 4)).alloc (.cells #[.string s] 9)) (.cells #[.string ⟨#[47]⟩] 9)
      rwa [World.size_alloc, World.size_alloc] at this
    · have := blk_new (((w.alloc (.cells #[.bool false] 4)).alloc (.cells #[.string s] 9)).alloc (.cells #[.string ⟨#[47]⟩] 9)) (.cells #[.int .i64 0] 3)
      rwa [World.size_alloc, World.size_alloc, World.size_alloc] at this
  have Z0 : ((((w.alloc (.cells #[.bool false] 4)).alloc (.cells #[.string s] 9)).alloc (.cells #[.string ⟨#[47]⟩] 9)).alloc (.cells #[.int .i64 0] 3)).heap.size = w.heap.size + 4 := by simp
  generalize ((((w.alloc (.cells #[.bool false] 4)).alloc (.cells #[.string s] 9)).alloc (.cells #[.string ⟨#[47]⟩] 9)).alloc (.cells #[.int .i64 0] 3)) = W0 at *
  clear n1 n2
  refine wp_range (n := 1) (gf := 63) rfl (enters_of Tryd.func63 (by kernel_rfl) rfl) (splitSeq_iter 1 (w.heap.size + 1) 47 s HS.out) (by omega) (fun k hk => by omega) (fun _ => rfl)
    (PathI w partB) (PathX w partB)
    ⟨fun h hb => ⟨held_grow h.1 hb, below_step h.2.1 hb, h.2.2⟩, fun v h => ⟨held_cell h.1 (by omega) v, h.2.1.setCell (by simp) v, h.2.2⟩⟩
    ⟨fun h hb => ⟨held_grow h.1 hb, below_step h.2.1 hb, h.2.2⟩, fun v h => ⟨held_cell h.1 (by omega) v, h.2.1.setCell (by simp) v, h.2.2⟩⟩
    (fun k o hk h _ => ⟨(World.putObj_heap_other (by omega)).trans h.1, put_below o h.2.1 (by omega), h.2.2⟩)
    (fun k o hk h _ => ⟨(World.putObj_heap_other (by omega)).trans h.1, put_below o h.2.1 (by omega), h.2.2⟩)
    E0 (fun x => { tmps := #[.string s, undef, .pointer (some ⟨w.heap.size, 0, none⟩), .string x, .string s, .int .i64 (s.size : Int), .bool false, .string s,
      .func (.func 63) #[] #[.pointer (some ⟨w.heap.size + 1 + 1, 0, none⟩), .pointer (some ⟨w.heap.size + 1, 0, none⟩), .pointer (some ⟨w.heap.size + 1 + 2, 0, none⟩)], .string x, undef, undef, undef], defers := [] })
    (fun W hb => S0.same fun k hk => hb.block k (by omega)) ?assign ?body ?done ?stop
  case assign =>
    intro l x W K hK
    gi_wp2
    exact hK
  case body =>
    intro l pre x post W hx hI
    have hxs : x.size ≤ 1000000 := Nat.le_trans (spl_sizes 47 s x (by rw [hx]; simp)) HS.out
    have cw := Aside0.mk (fun W => HW.out x W hxs)
    have k1 : W.cell? ⟨w.heap.size, 0, none⟩ = some (.bool false) := blk_cell hI.1 0
    have k2 : W.frozen? ⟨w.heap.size, 0, none⟩ = false := blk_frozen hI.1 0
    replace hI := Aside0.mk hI
    replace hx := Aside0.mk hx
    clear HW E0 S0
    cases e1 : partB x with
    | false =>
      rw [e1] at cw
      have E1 := Aside0.mk e1
      clear e1
      gi_wp2_with (first
        | (refine ⟨trivial, ?_⟩; gi_at_call 33; refine (CallsIn.inRound l (callsIn_wide.2 (cw.out _))).mono ?_; rintro e w' ⟨rfl, nd, rfl⟩))
      exact ⟨(KeepsOthers.of_below (pw_below_drewN (Below.refl _ W) nd)).trans (KeepsOthers.setCell _ _ _), blk_put (blk_drewN hI.out.1 nd) 0 _ rfl, (pw_below_drewN hI.out.2.1 nd).setCell (by simp) _, by rw [List.all_append]; simp [E1.out]⟩
    | true =>
      rw [e1] at cw
      have E1 := Aside0.mk e1
      clear e1
      gi_wp2_with (first
        | (refine ⟨trivial, ?_⟩; gi_at_call 33; refine (CallsIn.inRound l (callsIn_wide.2 (cw.out _))).mono ?_; rintro e w' ⟨rfl, nd, rfl⟩))
      exact ⟨KeepsOthers.of_below (pw_below_drewN (Below.refl _ W) _), fun _ _ => rfl, hI.out.1, pw_below_drewN hI.out.2.1 _, by rw [List.all_append, hI.out.2.2]; simp [E1.out]⟩
  case done =>
    intro D W hI hD hDl
    have k1 : W.cell? ⟨w.heap.size, 0, none⟩ = some (.bool false) := blk_cell hI.1 0
    have k2 : W.frozen? ⟨w.heap.size, 0, none⟩ = false := blk_frozen hI.1 0
    replace hI := Aside0.mk hI
    gi_wp2
    have hb := blk_put hI.out.1 0 (.bool true) (cs' := #[.bool true]) rfl
    refine ⟨by simp, .inl ⟨_, _, rfl, run_takeDeferred (held_cell hD (by omega) _), ?_⟩⟩
    exact ⟨_, res_cell2 (b := true) (r := w.heap.size) rfl (blk_cell (g := w.heap.size) ((World.putObj_heap_other (by omega)).trans hb) 0), by rw [hI.out.2.2], put_below _ (hI.out.2.1.setCell (by simp) _) (by omega)⟩
  case stop =>
    intro D pre x post W hx hI hD hDl
    have k1 : W.cell? ⟨w.heap.size, 0, none⟩ = some (.bool false) := blk_cell hI.1 0
    replace hI := Aside0.mk hI
    gi_wp2
    refine ⟨by simp, .inl ⟨_, _, rfl, run_takeDeferred hD, ?_⟩⟩
    exact ⟨_, res_cell2 (b := false) (r := w.heap.size) rfl (blk_cell (g := w.heap.size) ((World.putObj_heap_other (by omega)).trans hI.out.1) 0), by
      have h := hI.out.2.2
      rw [hx]
      rw [show pre ++ x :: post = (pre ++ [x]) ++ post by simp, List.all_append, h]; rfl, put_below _ hI.out.2.1 (by omega)⟩
set_option maxHeartbeats 8000000 in
set_option maxRecDepth 100000 in
theorem path_long (s : ByteArray) (hs : ¬ s.size ≤ 60) (w : World) : Calls Tryd.prog 14 #[.string s] w fun e w' => e = .returned (.bool false) ∧ Below w.heap.size w w' := by
  have c60 : decide ((s.size : Int) > 60) = true := decide_eq_true (by omega)
  have c60' : decide (60 < s.size) = true := decide_eq_true (by omega)
  have c60'' : decide (60 < (s.size : Int)) = true := decide_eq_true (by omega)
  clear hs
  go_enter Tryd.func14, Tryd.ntmps14
  go_wp2
  refine bodyPost_ret (res_cell2 (b := false) (r := w.heap.size) rfl ?_) rfl ?_
  · exact blk_cell (blk_new w (.cells #[.bool false] 4)) 0
  · exact ⟨rfl, (Below.refl _ _).alloc (Nat.le_refl _) _⟩
def files_Path.f (a0 : ByteArray) : Option Bool := some (pathB a0)
theorem files_Path.calls (a0 : ByteArray) (r : Bool) (w : World) (h : files_Path.f a0 = some r) : Calls Tryd.prog 14 #[.string a0] w fun e w' => e = .returned (.bool r) ∧ Below w.heap.size w w' := by
  obtain rfl := Option.some.inj h
  unfold pathB
  by_cases hs : a0.size ≤ 60
  · rw [decide_eq_true hs, Bool.true_and]; exact path_in a0 hs w
  · rw [decide_eq_false hs, Bool.false_and]; exact path_long a0 hs w
end Go.Proofs.YtnhhbmekjoanbaaDoor.P
