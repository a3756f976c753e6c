/- The shelf's contracts of strings.Builder at this program: WriteString, String, and a builder's beginning. -/
import Derived.Test.YtnhhbmekjoanbaaDoorZFHH0
import Derived.Test.YtnhhbmekjoanbaaDoorZFHM0
import Derived.Shelf.Strings.BuilderK
import Derived.Lib.Bytealg
import Derived.Laws.Cover1
import Derived.Test.YtnhhbmekjoanbaaDoorZFHH1
import Derived.Outline
import Derived.Sort.AtCall
import Derived.RangeFuncNested
import Derived.Shelf.Abstract
import Derived.Shelf.RegionOpen
import Derived.OwnWalkIn
import Derived.TacticsInMore
import Derived.LoopNIn
import Derived.LoopIn
namespace Go.Proofs.YtnhhbmekjoanbaaDoor.P
open Go.RowKit Go.Shelf Go.Proofs.YtnhhbmekjoanbaaDoorW.PrintWords Go.Proofs.YtnhhbmekjoanbaaDoorW.PrintLast Go.Proofs.YtnhhbmekjoanbaaDoorW.PrintMore
set_option linter.unusedVariables false
def r166 : Go.Shelf.Ren := ⟨fun | 166 => 46 | 240 => 60 | 276 => 79 | n => n, fun | 37 => 68 | 70 => 67 | 72 => 70 | 75 => 72 | 80 => 78 | 164 => 112 | n => n, fun n => n⟩
theorem lays166 : Go.Proofs.Lays.n166 Tryd.prog r166 := {
  mixed := by kernel_rfl
  f166 := Tryd.func46.trans (congrArg some (by kernel_rfl))
  f240 := Tryd.func60.trans (congrArg some (by kernel_rfl))
  f276 := Tryd.func79.trans (congrArg some (by kernel_rfl))
  t0 := Tryd.underlying0
  a0 := Tryd.isAgg0
  z0 := Tryd.sizeOf0
  v0 := Tryd.zeroValue0
  t3 := Tryd.underlying3
  a3 := Tryd.isAgg3
  z3 := Tryd.sizeOf3
  v3 := Tryd.zeroValue3
  t4 := Tryd.underlying4
  a4 := Tryd.isAgg4
  z4 := Tryd.sizeOf4
  v4 := Tryd.zeroValue4
  t9 := Tryd.underlying9
  a9 := Tryd.isAgg9
  z9 := Tryd.sizeOf9
  v9 := Tryd.zeroValue9
  t20 := Tryd.underlying20
  a20 := Tryd.isAgg20
  z20 := Tryd.sizeOf20
  v20 := Tryd.zeroValue20
  t37 := Tryd.underlying68
  a37 := Tryd.isAgg68
  z37 := Tryd.sizeOf68
  v37 := Tryd.zeroValue68
  t70 := Tryd.underlying67
  a70 := Tryd.isAgg67
  z70 := Tryd.sizeOf67
  v70 := Tryd.zeroValue67
  t72 := Tryd.underlying70
  a72 := Tryd.isAgg70
  z72 := Tryd.sizeOf70
  v72 := Tryd.zeroValue70
  t75 := Tryd.underlying72
  a75 := Tryd.isAgg72
  z75 := Tryd.sizeOf72
  v75 := Tryd.zeroValue72
  t164 := Tryd.underlying112
  a164 := Tryd.isAgg112
  z164 := Tryd.sizeOf112
  v164 := Tryd.zeroValue112 }
theorem extra166 : Builder.Extra Tryd.prog r166 := {
  sizeBuilder := by kernel_rfl
  liesBuilder := by kernel_rfl
  t5 := Tryd.underlying5
  a5 := Tryd.isAgg5
  z5 := Tryd.sizeOf5
  v5 := Tryd.zeroValue5
  infoByte := by kernel_rfl
  cellsByte := by kernel_rfl
  sizeByte := by kernel_rfl
  neB5 := by decide }
theorem copyRow (B b : Nat) (bs : List Value) (w : World) (h : Lib.IsBuilderF 70 5 B b bs w) (g : Nat) (o : Obj) (hg : w.heap[g]? = some o) (hne : g ≠ b) :
    Calls Tryd.prog 60 #[.pointer (some ⟨b, 0, none⟩)] w fun e w' => e = .returned (.tuple #[]) ∧ (Lib.BuilderAtF 70 5 B b (.pointer (some ⟨b, 0, none⟩)) bs w' ∧ Below B w w' ∧ Lib.OthersKept 5 (some b) w w' ∧ w'.heap[g]? = some o) := by
  rcases h with h | h
  · refine (Any.Builder_copyCheck_fresh { lays166 with } extra166.toX72 b w h.cell0 h.shape h.frozen0).mono ?_
    rintro e w' ⟨rfl, rfl⟩
    exact ⟨rfl, h.used _, (Below.refl B w).setCell (p := ⟨b, 0, none⟩) h.1 _, (Lib.OthersKept.refl _ _ w).setCell ⟨b, 0, none⟩ rfl _, by rw [Below.heap_setCell _ _ _ _ (fun e => hne e)]; exact hg⟩
  · refine (Any.Builder_copyCheck_used { lays166 with } extra166.toX72 b w h.cell0).mono ?_
    rintro e w' ⟨rfl, rfl⟩
    exact ⟨rfl, h, Below.refl B _, Lib.OthersKept.refl _ _ _, hg⟩
set_option maxHeartbeats 2000000 in
set_option maxRecDepth 100000 in
theorem write2 (B b : Nat) (bs : List Value) (g c : Nat) (x y : Int) (w : World) (h : Lib.IsBuilderF 70 5 B b bs w) (hg : w.heap[g]? = some (.cells #[.int .u8 x, .int .u8 y] 5 (0, 0))) (hlen : bs.length + 2 ≤ 140737488355328) (hBw : B ≤ w.heap.size) :
    Calls Tryd.prog 45 #[.pointer (some ⟨b, 0, none⟩), .slice (some ⟨g, 0, none⟩) 2 c] w fun e w' => e = .returned (.tuple #[.int .i64 2, .nilIface]) ∧ Lib.BuilderAtF 70 5 B b (.pointer (some ⟨b, 0, none⟩)) (bs ++ [.int .u8 x, .int .u8 y]) w' ∧ Below B w w' ∧ Lib.OthersKept 5 (some b) w w' := by
  have hgb : g ≠ b := by
    rintro rfl
    rcases h with h | h
    all_goals (
      obtain ⟨_, v, hv, _⟩ := h
      rw [hg] at hv
      exact absurd (Option.some.inj hv) (by simp))
  obtain ⟨i0, hi, hz0, hz1, hz2⟩ := info_parts extra166.infoByte
  have L := lays166
  go_enter Tryd.func45, Tryd.ntmps45
  go_wp2_with (go_at_call 60; refine (copyRow B b bs _ h g _ hg hgb).mono ?_)
  rintro e w1 ⟨rfl, h1, hb1, hk1, hg1⟩
  obtain ⟨hB, v, hbk, hown, hne⟩ := h1
  have c0 : w1.cell? ⟨b, 0, none⟩ = some (.pointer (some ⟨b, 0, none⟩)) := by rw [Lib.cell_of_heap hbk]; rfl
  have c1 : w1.cell? ⟨b, 1, none⟩ = some v := by rw [Lib.cell_of_heap hbk]; rfl
  go_wp2_with (at_builtin; refine wpList_append_ownF _ rfl _ _ 68 rfl B 5 i0 (.int .u8 0) 1 1 L.t37 hi hz0 hz1 hz2 rfl (by decide) _ _ _ rfl hown ⟨g, 0, none⟩ 2 c [.int .u8 x, .int .u8 y] rfl rfl ?c1 ?c2 ?c3 ?c4 ?c5 ?_)
  case c1 =>
    intro j u hj
    match j, hj with
    | 0, hj => simp at hj; subst hj; exact (Lib.cell_of_heap hg1 0).trans rfl
    | 1, hj => simp at hj; subst hj; exact (Lib.cell_of_heap hg1 1).trans rfl
  case c2 => intro u hu; simp at hu; rcases hu with rfl | rfl <;> rfl
  case c3 => unfold maxLen; omega
  case c4 => omega
  case c5 => have := hb1.size; omega
  intro v' w2 hown' hgrow _
  have hlt : b < w1.heap.size := by
    rcases Nat.lt_or_ge b w1.heap.size with h' | h'
    · exact h'
    · simp [Array.getElem?_eq_none h'] at hbk
  have hb2 : w2.heap[b]? = some (.cells #[.pointer (some ⟨b, 0, none⟩), v] 70 (0, 0)) := by
    rw [hgrow.block b hlt (fun e => hne e.symm)]
    exact hbk
  have d0 : w2.cell? ⟨b, 0, none⟩ = some (.pointer (some ⟨b, 0, none⟩)) := by rw [Lib.cell_of_heap hb2]; rfl
  have d1 : w2.cell? ⟨b, 1, none⟩ = some v := by rw [Lib.cell_of_heap hb2]; rfl
  have f1 : w2.frozen? ⟨b, 1, none⟩ = false := Lib.frozen_of_heap hb2 1
  obtain ⟨ao, n', cap, rfl⟩ : ∃ ao n' cap, v' = .slice ao n' cap := by
    rcases hown'.2 with ⟨hv, _⟩ | ⟨g, cap, cur, fz, hv, _⟩
    · exact ⟨_, _, _, hv⟩
    · exact ⟨_, _, _, hv⟩
  go_wp2
  go_ret2
  refine ⟨rfl, ?_, ?_, (hk1.grown hgrow (Lib.ownsRowF_kind hown)).setCell ⟨b, 1, none⟩ rfl _⟩
  · exact Lib.BuilderAtF.put (T := 70) (e := 5) hB hb2 (bs' := bs ++ [.int .u8 x, .int .u8 y]) (by simpa using hown') extra166.neB5
  · exact (hb1.grown hgrow (by have := hb1.size; omega) (fun k hk => (hown.lt k hk).1)).setCell (p := ⟨b, 1, none⟩) hB _
theorem cells_append (a b : ByteArray) : Lib.strCells (a ++ b) = Lib.strCells a ++ Lib.strCells b := by
  simp only [Lib.strCells, ByteArray.data_append, Array.toList_append, List.map_append]
/-- A builder that holds this text, in a block of its own. -/
def BldS (w0 : World) (g : Nat) (t : ByteArray) (w : World) : Prop := Lib.IsBuilderF 70 5 w0.heap.size g (Lib.strCells t) w ∧ Below w0.heap.size w0 w
theorem BldS.alloc {w0 w : World} {g : Nat} {t : ByteArray} (h : BldS w0 g t w) (o : Obj) : BldS w0 g t (w.alloc o) := ⟨h.1.alloc o, h.2.alloc h.2.size _⟩
theorem BldS.step {w0 w w' : World} {g : Nat} {t : ByteArray} (h : BldS w0 g t w) (hb : Below w.heap.size w w') : BldS w0 g t w' := by
  refine ⟨?_, h.2.trans (hb.mono h.2.size)⟩
  have go : ∀ p, Lib.BuilderAtF 70 5 w0.heap.size g p (Lib.strCells t) w → Lib.BuilderAtF 70 5 w0.heap.size g p (Lib.strCells t) w' := by
    rintro p ⟨hB, v, hv, ⟨hw1, hown⟩, hne⟩
    refine ⟨hB, v, (hb.block g (Array.getElem?_eq_some_iff.1 hv).1).trans hv, ⟨hw1, ?_⟩, hne⟩
    rcases hown with hn | ⟨g', cap, cur, fz, hv', hbg, hg, rest⟩
    · exact .inl hn
    · exact .inr ⟨g', cap, cur, fz, hv', hbg, (hb.block g' (Array.getElem?_eq_some_iff.1 hg).1).trans hg, rest⟩
  exact h.1.elim (fun x => Or.inl (go _ x)) (fun x => Or.inr (go _ x))
theorem BldS.text {w0 w : World} {g : Nat} {t : ByteArray} (h : BldS w0 g t w) (s : ByteArray) (hl : t.size + s.size ≤ 140737488355328) :
    Calls Tryd.prog 46 #[.pointer (some ⟨g, 0, none⟩), .string s] w fun e w' => (∃ n : Int, e = .returned (.tuple #[.int .i64 n, .nilIface])) ∧ Aside0 (BldS w0 g (t ++ s) w') ∧ Aside0 (Lib.OthersKept 5 (some g) w w') := by
  refine (Any.Builder_WriteString_k lays166 extra166 w0.heap.size g _ s w h.1 (by rw [Lib.strCells_length]; exact hl) h.2.size).mono ?_
  rintro e w' ⟨rfl, h1, h2, h3⟩
  exact ⟨⟨_, rfl⟩, ⟨⟨by rw [cells_append]; exact Or.inr h1, h.2.trans h2⟩⟩, ⟨h3⟩⟩
theorem BldS.two {w0 w : World} {g : Nat} {t : ByteArray} (h : BldS w0 g t w) (gr c : Nat) (x y : UInt8) (hg : w.heap[gr]? = some (.cells #[.int .u8 (x.toNat : Int), .int .u8 (y.toNat : Int)] 5 (0, 0))) (hl : t.size + 2 ≤ 140737488355328) :
    Calls Tryd.prog 45 #[.pointer (some ⟨g, 0, none⟩), .slice (some ⟨gr, 0, none⟩) 2 c] w fun e w' => (∃ n : Int, e = .returned (.tuple #[.int .i64 n, .nilIface])) ∧ Aside0 (BldS w0 g (t ++ ⟨#[x, y]⟩) w') ∧ Aside0 (Lib.OthersKept 5 (some g) w w') := by
  refine (write2 w0.heap.size g _ gr c x.toNat y.toNat w h.1 hg (by rw [Lib.strCells_length]; exact hl) h.2.size).mono ?_
  rintro e w' ⟨rfl, h1, h2, h3⟩
  exact ⟨⟨_, rfl⟩, ⟨⟨by rw [cells_append]; exact Or.inr h1, h.2.trans h2⟩⟩, ⟨h3⟩⟩
theorem BldS.len {w0 w : World} {g : Nat} {t : ByteArray} (h : BldS w0 g t w) :
    Calls Tryd.prog 47 #[.pointer (some ⟨g, 0, none⟩)] w fun e w' => e = .returned (.int .i64 (t.size : Int)) ∧ w' = w := by
  refine (Tryd.Builder_Len_f w0.heap.size g _ w h.1).mono ?_
  rintro e w' ⟨rfl, h2⟩
  exact ⟨by rw [Lib.strCells_length], h2⟩
theorem BldS.string {w0 w : World} {g : Nat} {t : ByteArray} (h : BldS w0 g t w) :
    Calls Tryd.prog 48 #[.pointer (some ⟨g, 0, none⟩)] w fun e w' => e = .returned (.string t) ∧ Aside0 (Below w0.heap.size w0 w') := by
  have h1 := h.1
  rw [Lib.strCells_eq] at h1
  refine (Tryd.Builder_String_any_k w0.heap.size g _ w h1 h.2.size).mono ?_
  rintro e w' ⟨rfl, _, h2, _⟩
  exact ⟨by rw [Array.toArray_toList], ⟨h.2.trans h2⟩⟩
/-- A fresh builder. -/
theorem BldS.new (w0 w : World) (hb : Below w0.heap.size w0 w) : BldS w0 w.heap.size ⟨#[]⟩ (w.alloc (.cells #[.pointer none, .slice none 0 0] 70 (0, 0))) :=
  ⟨.inl ⟨hb.size, .slice none 0 0, blk_new w _, ⟨by simp [Lib.strCells], .inl ⟨rfl, rfl⟩⟩, by simp [Value.ownBlock]⟩, hb.alloc hb.size _⟩
theorem BldS.lt {w0 w : World} {g : Nat} {t : ByteArray} (h : BldS w0 g t w) : g < w.heap.size := by
  rcases h.1 with ⟨_, v, hv, _⟩ | ⟨_, v, hv, _⟩
  · exact (Array.getElem?_eq_some_iff.1 hv).1
  · exact (Array.getElem?_eq_some_iff.1 hv).1
theorem u8_mod (n : Nat) : ((n : Int) % 256) = (n.toUInt8.toNat : Int) := by
  simp only [Nat.toUInt8, UInt8.toNat_ofNat']
  omega
/-- Two bytes written out of a row made just now. -/
theorem BldS.duo {w0 w : World} {g : Nat} {t : ByteArray} (h : BldS w0 g t w) (x y : Int) (a b : UInt8) (hx : x = (a.toNat : Int)) (hy : y = (b.toNat : Int)) (hl : t.size + 2 ≤ 140737488355328) :
    Calls Tryd.prog 45 #[.pointer (some ⟨g, 0, none⟩), .slice (some ⟨w.heap.size, 0, none⟩) 2 2] (w.alloc (.cells #[.int .u8 x, .int .u8 y] 5 (0, 0))) fun e w' => (∃ n : Int, e = .returned (.tuple #[.int .i64 n, .nilIface])) ∧ Aside0 (BldS w0 g (t ++ ⟨#[a, b]⟩) w') ∧ Aside0 (∀ k o, w.heap[k]? = some o → k ≠ g → (∀ c fz, o ≠ .cells c 5 fz) → w'.heap[k]? = some o) := by
  subst hx
  subst hy
  refine ((h.alloc _).two _ 2 a b (blk_new w _) hl).mono ?_
  rintro e w' ⟨h1, h2, h3⟩
  exact ⟨h1, h2, ⟨fun k o hk hne ho => h3.out k o ((Lib.alloc_old w _ k (Array.getElem?_eq_some_iff.1 hk).1).trans hk) (fun c => hne (Option.some.inj c)) ho⟩⟩
theorem OthersKept.keep {g : Nat} {w w' : World} (h : Lib.OthersKept 5 (some g) w w') (k : Nat) (o : Obj) (hk : w.heap[k]? = some o) (hne : k ≠ g) (ho : ∀ c fz, o ≠ .cells c 5 fz) : w'.heap[k]? = some o :=
  h k o hk (fun c => hne (Option.some.inj c)) ho
end Go.Proofs.YtnhhbmekjoanbaaDoor.P
set_option linter.unusedVariables false
set_option linter.unusedSimpArgs false
namespace Go.Proofs.YtnhhbmekjoanbaaDoor.P
open Go.RowKit Go.Proofs.YtnhhbmekjoanbaaDoorW.PrintWords Go.Proofs.YtnhhbmekjoanbaaDoorW.PrintLast Go.Proofs.YtnhhbmekjoanbaaDoorW.PrintMore
theorem gw64 {x : Int} (h0 : -9223372036854775808 ≤ x) (h1 : x ≤ 9223372036854775807) : wrap64 x = x := by
  unfold wrap64; omega
theorem bt_nat (s : ByteArray) (i : Nat) (h : i < s.size) : bt s (i : Int) = ((s[i]).toNat : Int) := by
  have := bt_at s (i : Int) (by simpa using h)
  simp only [Int.toNat_natCast] at this
  exact this.symm
theorem bt_ext (s : ByteArray) (p a j : Nat) (ha : a ≤ s.size) (hj : p + j < a) : bt (s.extract p a) (j : Int) = bt s ((p + j : Nat) : Int) := by
  have h1 : j < (s.extract p a).size := by rw [ByteArray.size_extract]; omega
  rw [bt_nat _ j h1, bt_nat s (p + j) (by omega), ByteArray.getElem_extract]
theorem tl_inj {a b : ByteArray} (h : a.data.toList = b.data.toList) : a = b := by
  obtain ⟨⟨a⟩⟩ := a
  obtain ⟨⟨b⟩⟩ := b
  simp at h; rw [h]
theorem toList_nil (s : ByteArray) : s.toList = ([] : List UInt8) ↔ s.size = 0 := by
  rw [ByteArray.toList_eq, Array.toList_eq_nil_iff]
  constructor
  · intro h; show s.data.size = 0; rw [h]; rfl
  · intro h; exact Array.eq_empty_of_size_eq_zero h
theorem ext_ext (s : ByteArray) (a b c d : Nat) (h : a + d ≤ b) : (s.extract a b).extract c d = s.extract (a + c) (a + d) := by
  rw [ByteArray.extract_extract]
  congr 1
  omega
theorem ext_all (s : ByteArray) : s.extract 0 s.size = s := ByteArray.extract_zero_size
def ix (c : UInt8) (s : ByteArray) : Nat := (Lib.indexByte s.data.toList c).toNat
def cnt (c : UInt8) (s : ByteArray) : Nat := Lib.countByte s.data.toList c
def pieces (c : UInt8) : Nat → ByteArray → List ByteArray
  | 0, s => [s]
  | k + 1, s => s.extract 0 (ix c s) :: pieces c k (s.extract (ix c s + 1) s.size)
theorem pieces_length (c : UInt8) : ∀ (k : Nat) (s : ByteArray), (pieces c k s).length = k + 1
  | 0, _ => rfl
  | k + 1, s => by rw [pieces, List.length_cons, pieces_length c k]
theorem index_of_count (c : UInt8) (l : List UInt8) : 0 < l.count c → 0 ≤ Lib.indexByte l c ∧ Lib.indexByte l c < l.length ∧ (l.drop ((Lib.indexByte l c).toNat + 1)).count c + 1 = l.count c := by
  induction l with
  | nil => intro h; simp at h
  | cons b l ih =>
    intro h
    unfold Lib.indexByte
    by_cases e : (b == c) = true
    · rw [if_pos e, List.count_cons, if_pos e]; simp
    · rw [if_neg e]
      rw [List.count_cons, if_neg e, Nat.add_zero] at h ⊢
      obtain ⟨h1, h2, h3⟩ := ih h
      have c2 : ¬ (Lib.indexByte l c == -1) = true := by rw [beq_iff_eq]; omega
      rw [if_neg c2]
      refine ⟨by omega, by rw [List.length_cons]; omega, ?_⟩
      rw [show (Lib.indexByte l c + 1).toNat = (Lib.indexByte l c).toNat + 1 by omega, List.drop_succ_cons]
      exact h3
theorem index_none (c : UInt8) (l : List UInt8) : l.count c = 0 → Lib.indexByte l c = -1 := by
  induction l with
  | nil => intro _; rfl
  | cons b l ih =>
    intro h
    unfold Lib.indexByte
    by_cases e : (b == c) = true
    · rw [List.count_cons, if_pos e] at h; omega
    · rw [if_neg e]
      rw [List.count_cons, if_neg e, Nat.add_zero] at h
      rw [ih h]; rfl
theorem cnt_none {c : UInt8} {s : ByteArray} (h : cnt c s = 0) : Lib.indexByte s.data.toList c = -1 := index_none c _ h
theorem cnt_pos {c : UInt8} {s : ByteArray} (h : 0 < cnt c s) : Lib.indexByte s.data.toList c = (ix c s : Int) ∧ ix c s < s.size ∧ cnt c (s.extract (ix c s + 1) s.size) + 1 = cnt c s := by
  obtain ⟨h1, h2, h3⟩ := index_of_count c s.data.toList h
  have hz : s.data.toList.length = s.size := by rw [Array.length_toList]; rfl
  refine ⟨by unfold ix; omega, by unfold ix; omega, ?_⟩
  unfold cnt Lib.countByte ix
  rw [ByteArray.data_extract, Array.toList_extract, List.extract_eq_take_drop]
  rw [List.take_of_length_le (by rw [List.length_drop]; omega)]
  exact h3
theorem cnt_le (c : UInt8) (s : ByteArray) : cnt c s ≤ s.size := by
  have hz : s.data.toList.length = s.size := by rw [Array.length_toList]; rfl
  have := List.count_le_length (a := c) (l := s.data.toList)
  unfold cnt Lib.countByte; omega
theorem pieces_sizes (c : UInt8) : ∀ (k : Nat) (s : ByteArray), ∀ x ∈ pieces c k s, x.size ≤ s.size
  | 0, s, x, h => by simp [pieces] at h; subst h; omega
  | k + 1, s, x, h => by
    rw [pieces] at h
    rcases List.mem_cons.1 h with rfl | h
    · rw [ByteArray.size_extract]; omega
    · have := pieces_sizes c k _ x h
      rw [ByteArray.size_extract] at this; omega
/-- The pieces from `fr` on, the bytes ahead of i being no sign. -/
def sp (c : Int) (s : ByteArray) : Nat → Nat → Nat → List ByteArray
  | 0, fr, _ => [s.extract fr s.size]
  | n + 1, fr, i => if bt s (i : Int) = c then s.extract fr i :: sp c s n (i + 1) (i + 1) else sp c s n fr (i + 1)
theorem sp_none (c : Int) (s : ByteArray) : ∀ (n fr i : Nat), n + i = s.size → (∀ j, i ≤ j → j < s.size → bt s (j : Int) ≠ c) → sp c s n fr i = [s.extract fr s.size]
  | 0, fr, i, _, _ => rfl
  | n + 1, fr, i, hn, h => by rw [sp, if_neg (h i (Nat.le_refl _) (by omega))]; exact sp_none c s n fr (i + 1) (by omega) (fun j h1 h2 => h j (by omega) h2)
theorem sp_first (c : Int) (s : ByteArray) (j : Nat) (hj : j < s.size) (hb : bt s (j : Int) = c) : ∀ (n fr i : Nat), n + i = s.size → i ≤ j → (∀ m, i ≤ m → m < j → bt s (m : Int) ≠ c) → sp c s n fr i = s.extract fr j :: sp c s (s.size - (j + 1)) (j + 1) (j + 1)
  | 0, fr, i, hn, hi, _ => by omega
  | n + 1, fr, i, hn, hi, h => by
    by_cases e : i = j
    · subst e
      rw [sp, if_pos hb, show s.size - (i + 1) = n by omega]
    · rw [sp, if_neg (h i (Nat.le_refl _) (by omega))]
      exact sp_first c s j hj hb n fr (i + 1) (by omega) (by omega) (fun m h1 h2 => h m (by omega) h2)
theorem indexByte_at (c : UInt8) (l : List UInt8) : ∀ m : Nat, Lib.indexByte l c = (m : Int) → l[m]? = some c ∧ ∀ j, j < m → l[j]? ≠ some c := by
  induction l with
  | nil => intro m h; simp [Lib.indexByte] at h
  | cons b l ih =>
    intro m h
    unfold Lib.indexByte at h
    by_cases e : (b == c) = true
    · rw [if_pos e] at h
      obtain rfl : m = 0 := by omega
      refine ⟨by rw [beq_iff_eq] at e; simp [e], fun j hj => by omega⟩
    · rw [if_neg e] at h
      by_cases c2 : (Lib.indexByte l c == -1) = true
      · rw [if_pos c2] at h; omega
      · rw [if_neg c2] at h
        have hge := Lib.indexByte_ge l c
        rw [beq_iff_eq] at c2
        obtain ⟨m', rfl⟩ : ∃ m', m = m' + 1 := ⟨m - 1, by omega⟩
        obtain ⟨h1, h2⟩ := ih m' (by omega)
        refine ⟨by simpa using h1, fun j hj => ?_⟩
        cases j with
        | zero => simp; rw [beq_iff_eq] at e; exact e
        | succ j => simpa using h2 j (by omega)
theorem bt_get (c : UInt8) (x : ByteArray) (m : Nat) (h : m < x.size) : (bt x (m : Int) = (c.toNat : Int)) ↔ x.data.toList[m]? = some c := by
  have hz : x.data.toList.length = x.size := by rw [Array.length_toList]; rfl
  rw [bt_nat x m h, List.getElem?_eq_getElem (by omega)]
  have e : x.data.toList[m]'(by omega) = x[m] := by rw [Array.getElem_toList]; rfl
  rw [e]
  constructor
  · intro h; congr 1; exact UInt8.toNat_inj.1 (by omega)
  · intro h; rw [Option.some.inj h]
theorem cnt_zero {c : UInt8} {x : ByteArray} (h : cnt c x = 0) (m : Nat) (hm : m < x.size) : bt x (m : Int) ≠ (c.toNat : Int) := by
  intro e
  rw [bt_get c x m hm] at e
  have : c ∈ x.data.toList := List.mem_of_getElem? e
  have := List.count_pos_iff.2 this
  unfold cnt Lib.countByte at h
  omega
theorem cnt_first {c : UInt8} {x : ByteArray} (h : 0 < cnt c x) : ix c x < x.size ∧ bt x (ix c x : Int) = (c.toNat : Int) ∧ (∀ m, m < ix c x → bt x (m : Int) ≠ (c.toNat : Int)) ∧ cnt c (x.extract (ix c x + 1) x.size) + 1 = cnt c x := by
  obtain ⟨h1, h2, h3⟩ := cnt_pos h
  obtain ⟨g1, g2⟩ := indexByte_at c x.data.toList (ix c x) h1
  exact ⟨h2, (bt_get c x _ h2).2 g1, fun m hm e => g2 m hm ((bt_get c x m (by omega)).1 e), h3⟩
theorem ext_size {s : ByteArray} (a b : Nat) (ha : b ≤ s.size) : (s.extract a b).size = b - a := by rw [ByteArray.size_extract]; omega
theorem pieces_sp (b : UInt8) (s : ByteArray) : ∀ (c a : Nat), a ≤ s.size → cnt b (s.extract a s.size) = c → pieces b c (s.extract a s.size) = sp (b.toNat : Int) s (s.size - a) a a
  | 0, a, ha, hc => by
    have hz := ext_size (s := s) a s.size (Nat.le_refl _)
    rw [sp_none _ s _ a a (by omega) (fun j h1 h2 => by
      have := cnt_zero hc (j - a) (by omega)
      rw [bt_ext s a s.size (j - a) (Nat.le_refl _) (by omega), show a + (j - a) = j by omega] at this
      exact this)]
    rfl
  | c + 1, a, ha, hc => by
    have hz := ext_size (s := s) a s.size (Nat.le_refl _)
    obtain ⟨h1, h2, h3, h4⟩ := cnt_first (c := b) (x := s.extract a s.size) (by omega)
    rw [pieces]
    generalize ix b (s.extract a s.size) = m at *
    rw [hz] at h1 h4
    rw [bt_ext s a s.size m (Nat.le_refl _) (by omega)] at h2
    have e1 : (s.extract a s.size).extract (m + 1) (s.size - a) = s.extract (a + m + 1) s.size := by
      rw [ext_ext s a s.size (m + 1) (s.size - a) (by omega)]
      congr 1; omega
    rw [hz, e1, ext_ext s a s.size 0 m (by omega)]
    rw [e1] at h4
    rw [sp_first _ s (a + m) (by omega) h2 _ a a (by omega) (by omega) (fun j g1 g2 => by
      have := h3 (j - a) (by omega)
      rw [bt_ext s a s.size (j - a) (Nat.le_refl _) (by omega), show a + (j - a) = j by omega] at this
      exact this)]
    rw [pieces_sp b s c (a + m + 1) (by omega) (by omega)]
    rfl
/-- All pieces. -/
def spl (c : UInt8) (s : ByteArray) : List ByteArray := pieces c (cnt c s) s
theorem spl_sp (c : UInt8) (s : ByteArray) : spl c s = sp (c.toNat : Int) s s.size 0 0 := by
  have h := pieces_sp c s (cnt c (s.extract 0 s.size)) 0 (Nat.zero_le _) rfl
  rw [ext_all] at h
  exact h
theorem spl_length (c : UInt8) (s : ByteArray) : (spl c s).length = cnt c s + 1 := pieces_length c _ s
theorem spl_sizes (c : UInt8) (s : ByteArray) : ∀ x ∈ spl c s, x.size ≤ s.size := pieces_sizes c _ s
end Go.Proofs.YtnhhbmekjoanbaaDoor.P
set_option linter.unusedVariables false
set_option linter.unusedSimpArgs false
namespace Go.Proofs.YtnhhbmekjoanbaaDoor.P
theorem less_rev : ∀ a b : List UInt8, (!(Op.bytesLess a b || a == b)) = Op.bytesLess b a
  | [], [] => rfl
  | [], _ :: _ => rfl
  | _ :: _, [] => rfl
  | x :: xs, y :: ys => by
    have ih := less_rev xs ys
    have e : ((x :: xs) == (y :: ys)) = (x == y && xs == ys) := rfl
    rw [Op.bytesLess, Op.bytesLess, e, ← ih]
    by_cases h1 : x < y
    · have h2 : ¬ y < x := by rw [UInt8.lt_iff_toNat_lt] at *; omega
      have h3 : (y == x) = false := beq_eq_false_iff_ne.2 (fun h => by subst h; exact h2 h1)
      rw [decide_eq_true h1, decide_eq_false h2, h3]; simp
    · by_cases h2 : y < x
      · have h3 : (x == y) = false := beq_eq_false_iff_ne.2 (fun h => by subst h; exact h1 h2)
        rw [decide_eq_false h1, decide_eq_true h2, h3]; simp
      · have h3 : x = y := UInt8.toNat_inj.1 (by rw [UInt8.lt_iff_toNat_lt] at h1 h2; omega)
        subst h3
        rw [decide_eq_false h1]; simp
theorem gtr_str (t : TypeId) (a b : ByteArray) : binOp .gtr t (.string a) (.string b) = pure (.bool (Op.bytesLess b.toList a.toList)) := by rw [binOp_string_gtr, less_rev]
end Go.Proofs.YtnhhbmekjoanbaaDoor.P
namespace Go.Proofs.YtnhhbmekjoanbaaDoor.P
open Go.RowKit Go.Proofs.YtnhhbmekjoanbaaDoorW.PrintWords Go.Proofs.YtnhhbmekjoanbaaDoorW.PrintLast Go.Proofs.YtnhhbmekjoanbaaDoorW.PrintMore
attribute [local go_sem] max2_int min2_int max_two min_two max_three min_three max_four min_four
set_option linter.unusedVariables false
set_option linter.unusedSimpArgs false
set_option maxHeartbeats 2000000 in
set_option maxRecDepth 100000 in
theorem cut_short (b : Nat) (s : ByteArray) (n : Nat) (w : World) (hb : w.heap[b]? = some (.cells #[.string s] 9 (0, 0))) (h : s.size < n) :
    Calls Tryd.prog 80 #[.pointer (some ⟨b, 0, none⟩), .int .i64 (n : Int)] w fun e w' => e = .returned (.tuple #[.string ⟨#[]⟩, .bool false]) ∧ w' = w := by
  have c0 : w.cell? ⟨b, 0, none⟩ = some (.string s) := (blk_cell hb 0).trans rfl
  have h1 : decide ((s.size : Int) < (n : Int)) = true := decide_eq_true (by omega)
  have h2 : decide (s.size < n) = true := decide_eq_true h
  go_enter Tryd.func80, Tryd.ntmps80
  go_wp2
  go_ret2
  exact ⟨rfl, rfl⟩
set_option maxHeartbeats 2000000 in
set_option maxRecDepth 100000 in
theorem cut_long (b : Nat) (s : ByteArray) (n : Nat) (w : World) (hb : w.heap[b]? = some (.cells #[.string s] 9 (0, 0))) (h : n ≤ s.size) :
    Calls Tryd.prog 80 #[.pointer (some ⟨b, 0, none⟩), .int .i64 (n : Int)] w fun e w' => e = .returned (.tuple #[.string (s.extract 0 n), .bool true]) ∧ w' = w.setCell ⟨b, 0, none⟩ (.string (s.extract n s.size)) := by
  have c0 : w.cell? ⟨b, 0, none⟩ = some (.string s) := (blk_cell hb 0).trans rfl
  have f0 := blk_frozen hb 0
  have h1 : decide ((s.size : Int) < (n : Int)) = false := decide_eq_false (by omega)
  have h2 : decide (s.size < n) = false := decide_eq_false (by omega)
  have p0 : (0 : Int) ≤ (n : Int) := by omega
  have p1 : (n : Int) ≤ (s.size : Int) := by omega
  go_enter Tryd.func80, Tryd.ntmps80
  go_wp2
  go_ret2
  exact ⟨rfl, rfl⟩
/-- What a call may turn that has a text's cell in hand: that cell, and what it lays anew. -/
def Mv (b : Nat) (s0 s : ByteArray) (w W : World) : Prop := W.heap[b]? = some (.cells #[.string s] 9 (0, 0)) ∧ Below w.heap.size w (W.setCell ⟨b, 0, none⟩ (.string s0))
theorem setCell_same {b : Nat} {s : ByteArray} {w : World} (h : w.heap[b]? = some (.cells #[.string s] 9 (0, 0))) : w.setCell ⟨b, 0, none⟩ (.string s) = w := by
  have hs : (w.setCell ⟨b, 0, none⟩ (.string s)).heap = w.heap := by
    apply Array.ext_getElem?
    intro k
    by_cases hk : k = b
    · subst hk
      rw [blk_put (cs := #[.string s]) h 0 (.string s) rfl, h]
      rfl
    · exact Below.heap_setCell w ⟨b, 0, none⟩ (.string s) k hk
  unfold World.setCell at hs ⊢
  dsimp only at hs ⊢
  rw [hs]
theorem setCell_two (w : World) (b : Nat) (x y : Value) : (w.setCell ⟨b, 0, none⟩ x).setCell ⟨b, 0, none⟩ y = w.setCell ⟨b, 0, none⟩ y := by
  unfold World.setCell
  congr 1
  apply Array.ext_getElem?
  intro k
  simp only [Array.getElem?_modify]
  by_cases hk : b = k
  · simp only [hk, if_true]
    cases w.heap[k]? with
    | none => rfl
    | some o => cases o <;> simp
  · simp only [hk, if_false]
theorem Mv.refl {b : Nat} {s : ByteArray} {w : World} (h : w.heap[b]? = some (.cells #[.string s] 9 (0, 0))) : Mv b s s w w := ⟨h, by rw [setCell_same h]; exact Below.refl _ _⟩
theorem Mv.lt {b : Nat} {s0 s : ByteArray} {w W : World} (h : Mv b s0 s w W) : b < W.heap.size := (Array.getElem?_eq_some_iff.1 h.1).1
theorem Mv.size {b : Nat} {s0 s : ByteArray} {w W : World} (h : Mv b s0 s w W) : w.heap.size ≤ W.heap.size := by
  have h1 := h.2.size
  unfold World.setCell at h1
  simpa using h1
theorem Mv.cell {b : Nat} {s0 s : ByteArray} {w W : World} (h : Mv b s0 s w W) (s' : ByteArray) : Mv b s0 s' w (W.setCell ⟨b, 0, none⟩ (.string s')) :=
  ⟨blk_put h.1 0 _ rfl, by rw [setCell_two]; exact h.2⟩
theorem Mv.step {b C : Nat} {s0 s : ByteArray} {w W W1 : World} (hb : b < w.heap.size) (h : Mv b s0 s w W) (hg : Below C W W1) (hC : w.heap.size ≤ C) : Mv b s0 s w W1 := by
  have h1 : W1.heap[b]? = some (.cells #[.string s] 9 (0, 0)) := (hg.block b (by omega)).trans h.1
  refine ⟨h1, ?_⟩
  refine ⟨hg.os.trans h.2.os, hg.tape.trans h.2.tape, hg.output.trans h.2.output, ?_, ?_⟩
  · have := hg.size
    have := h.size
    unfold World.setCell
    simp only [Array.size_modify]
    omega
  · intro k hk
    rw [← h.2.block k hk]
    by_cases hkb : k = b
    · subst hkb
      rw [blk_put h1 0 (.string s0) (cs' := #[.string s0]) rfl, blk_put h.1 0 (.string s0) (cs' := #[.string s0]) rfl]
    · rw [Below.heap_setCell _ _ _ k hkb, Below.heap_setCell _ _ _ k hkb]
      exact hg.block k (by omega)
/-- Whatever abides new memory and a turn of the cell, abides the call. -/
theorem Mv.calm {α : Type} {b : Nat} {s0 s : ByteArray} {w W : World} {J : List α → World → Prop} {pre : List α} (h : Mv b s0 s w W) (hJ : Rg.Calm b J) (hp : J pre w) : J pre W := by
  have h1 := hJ.cell (.string s) (hJ.grow hp h.2)
  rw [setCell_two, setCell_same h.1] at h1
  exact h1
theorem two_bytes (s : ByteArray) (h : 2 ≤ s.size) : s.extract 0 2 = ⟨#[s.get! 0, s.get! 1]⟩ := by
  obtain ⟨⟨l⟩⟩ := s
  match l, h with
  | a :: b :: r, _ =>
    apply ByteArray.ext
    rw [ByteArray.data_extract]
    apply Array.toList_inj.mp
    simp [ByteArray.get!]
theorem num16 (u v : UInt8) : bits .or .i64 (IntKind.i64.wrap (IntKind.i64.wrap (u.toNat : Int) * 256)) (IntKind.i64.wrap (v.toNat : Int)) = ((u.toNat * 256 + v.toNat : Nat) : Int) := by
  have hu := u.toNat_lt
  have hv := v.toNat_lt
  rw [show IntKind.i64.wrap (IntKind.i64.wrap (u.toNat : Int) * 256) = (u.toNat : Int) * 256 by rw [IntKind.wrap_i64, IntKind.wrap_i64]; omega, show IntKind.i64.wrap (v.toNat : Int) = (v.toNat : Int) by rw [IntKind.wrap_i64]; omega]
  rw [bits_join .i64 63 (by decide) (fun n h0 h1 => by rw [IntKind.wrap_i64]; omega) 8 _ _ (by omega) (by omega) (by omega) (by omega) (by omega) (by omega)]
  omega
/-- What first takes off a text: the op, whether there is one, the rest. -/
def firstB (s : ByteArray) : S45 × Bool × ByteArray :=
  if s.size < 2 then (z45, false, s) else
  if 1 < (s.get! 0).toNat then (z45, false, s.extract 2 s.size) else
  if (s.extract 2 s.size).size < (s.get! 1).toNat then (⟨(s.get! 0).toNat == 1, ⟨#[]⟩, ⟨#[]⟩⟩, false, s.extract 2 s.size) else
  if (s.get! 0).toNat = 1 then (⟨true, (s.extract 2 s.size).extract 0 (s.get! 1).toNat, ⟨#[]⟩⟩, true, (s.extract 2 s.size).extract (s.get! 1).toNat (s.extract 2 s.size).size) else
  firstC ((s.extract 2 s.size).extract 0 (s.get! 1).toNat) ((s.extract 2 s.size).extract (s.get! 1).toNat (s.extract 2 s.size).size)
where
  firstC (p q : ByteArray) : S45 × Bool × ByteArray :=
    if q.size < 2 then (z45, false, q) else
    if (q.extract 2 q.size).size < (q.get! 0).toNat * 256 + (q.get! 1).toNat then (⟨false, p, ⟨#[]⟩⟩, false, q.extract 2 q.size) else
    (⟨false, p, (q.extract 2 q.size).extract 0 ((q.get! 0).toNat * 256 + (q.get! 1).toNat)⟩, true, (q.extract 2 q.size).extract ((q.get! 0).toNat * 256 + (q.get! 1).toNat) (q.extract 2 q.size).size)
theorem get_0 (x y : UInt8) (h : 0 < (⟨#[x, y]⟩ : ByteArray).size) : (⟨#[x, y]⟩ : ByteArray)[0]'h = x := rfl
theorem get_1 (x y : UInt8) (h : 1 < (⟨#[x, y]⟩ : ByteArray).size) : (⟨#[x, y]⟩ : ByteArray)[1]'h = y := rfl
theorem wrap_u8 (y : UInt8) : wrap64 (y.toNat : Int) = (y.toNat : Int) := IntWalk.wrap64_in _ (by have := y.toNat_lt; omega)
attribute [local go_sem] get_0 get_1 wrap_u8
theorem res_first {tmps : Array Value} {W : World} {g : Nat} {cs : Array Value} (ht : tmps.getD 2 undef = .pointer (some ⟨g, 0, none⟩)) (hg : W.heap[g]? = some (.cells cs 45 (0, 0))) (hc : cs.size = 3) :
    (results Tryd.f62 tmps).run Tryd.prog W = .ok (.tuple #[.agg cs, tmps.getD 3 undef]) W := by
  rw [results_cell_tmp (fn := Tryd.f62) (p := 2) (u := 3) (ty := 45) rfl, ht]
  have hi : (Tryd.prog.info? 45).map (·.size) = some 3 := by kernel_rfl
  simp [asAddr, run_loadVar_row W g 45 45 cs (0, 0) _ hg Tryd.underlying45 rfl (by rw [hi, hc]), Result.andThen]
theorem cut2 (b : Nat) (s : ByteArray) (w : World) (hb : w.heap[b]? = some (.cells #[.string s] 9 (0, 0))) (h : 2 ≤ s.size) :
    Calls Tryd.prog 80 #[.pointer (some ⟨b, 0, none⟩), .int .i64 2] w fun e w' => e = .returned (.tuple #[.string ⟨#[s.get! 0, s.get! 1]⟩, .bool true]) ∧ w' = w.setCell ⟨b, 0, none⟩ (.string (s.extract 2 s.size)) := by
  rw [← two_bytes s h]
  exact cut_long b s 2 w hb h
def Cut2 (b : Nat) (s : ByteArray) (x y : UInt8) (r : ByteArray) : Prop := ∀ W : World, W.heap[b]? = some (.cells #[.string s] 9 (0, 0)) → Calls Tryd.prog 80 #[.pointer (some ⟨b, 0, none⟩), .int .i64 2] W fun e w' => e = .returned (.tuple #[.string ⟨#[x, y]⟩, .bool true]) ∧ w' = W.setCell ⟨b, 0, none⟩ (.string r)
def Good (o : S45) (is : Bool) (b : Nat) (s r : ByteArray) (w : World) (e : Ending) (w' : World) : Prop := e = .returned (.tuple #[.agg #[.bool o.f0, .string o.f1, .string o.f2], .bool is]) ∧ Mv b s r w w'
set_option maxHeartbeats 2000000 in
set_option maxRecDepth 100000 in
theorem first_a (b : Nat) (s : ByteArray) (w : World) (hb : w.heap[b]? = some (.cells #[.string s] 9 (0, 0))) (h : s.size < 2) :
    Calls Tryd.prog 62 #[.pointer (some ⟨b, 0, none⟩)] w (Good z45 false b s s w) := by
  have hu := Tryd.underlying45
  have HM := Aside0.mk (Mv.refl hb)
  have hlt := Aside0.mk (Array.getElem?_eq_some_iff.1 hb).1
  have H := Aside0.mk h
  clear hb h
  go_enter Tryd.func62, Tryd.ntmps62
  go_wp2_with (first
    | (refine box_lay 2 rfl rfl 45 rfl #[.bool false, .string ⟨#[]⟩, .string ⟨#[]⟩] (by kernel_rfl) ?_; intro gr HG w1 HK HW; have HM1 := Aside0.mk (HM.out.step hlt.out HW.out (Nat.le_refl _)))
    | (go_at_call 80; refine (cut_short b s 2 _ HM1.out.1 H.out).mono ?_; rintro e w2 ⟨rfl, rfl⟩)
    | (refine box_put rfl rfl 45 _ _ rfl gr _ #[.bool false, .string ⟨#[]⟩, .string ⟨#[]⟩] rfl rfl HK.out rfl rfl (by kernel_rfl) ?_; intro w3 HK3 HW3 HO3 HS3; have HM3 := Aside0.mk (HM1.out.step hlt.out HW3.out (Nat.le_of_eq HG.out.symm))))
  refine bodyPost_ret (res_first rfl HK3.out rfl) rfl ?_
  exact ⟨rfl, HM3.out⟩
set_option maxHeartbeats 2000000 in
set_option maxRecDepth 100000 in
theorem first_b (b : Nat) (s r : ByteArray) (x y : UInt8) (w : World) (hb : w.heap[b]? = some (.cells #[.string s] 9 (0, 0))) (hc : Cut2 b s x y r) (hx : 1 < x.toNat) :
    Calls Tryd.prog 62 #[.pointer (some ⟨b, 0, none⟩)] w (Good z45 false b s r w) := by
  have hu := Tryd.underlying45
  have HM := Aside0.mk (Mv.refl hb)
  have hlt := Aside0.mk (Array.getElem?_eq_some_iff.1 hb).1
  have HC := Aside0.mk hc
  have d1 : decide (1 < x.toNat) = true := decide_eq_true hx
  have d2 : decide ((1 : Int) < (x.toNat : Int)) = true := decide_eq_true (by omega)
  clear hb hc hx
  go_enter Tryd.func62, Tryd.ntmps62
  go_upto_region 3 with (first
    | (refine box_lay 2 rfl rfl 45 rfl #[.bool false, .string ⟨#[]⟩, .string ⟨#[]⟩] (by kernel_rfl) ?_; intro gr HG w1 HK HW; have HM1 := Aside0.mk (HM.out.step hlt.out HW.out (Nat.le_refl _)))
    | (go_at_call 80; refine (HC.out _ HM1.out.1).mono ?_; rintro e w2 ⟨rfl, hw2⟩; have HM2 := Aside0.mk (HM1.out.cell r); have HK2 := Aside0.mk ((Below.heap_setCell w1 ⟨b, 0, none⟩ (.string r) gr (by have := HG.out; have := hlt.out; dsimp only; omega)).trans HK.out); rw [← hw2] at HM2 HK2; clear hw2))
  go_wp2_with (refine box_put rfl rfl 45 _ _ rfl gr _ #[.bool false, .string ⟨#[]⟩, .string ⟨#[]⟩] rfl rfl HK2.out rfl rfl (by kernel_rfl) ?_; intro w3 HK3 HW3 HO3 HS3; have HM3 := Aside0.mk (HM2.out.step hlt.out HW3.out (Nat.le_of_eq HG.out.symm)))
  refine bodyPost_ret (res_first rfl HK3.out rfl) rfl ?_
  exact ⟨rfl, HM3.out⟩
set_option maxHeartbeats 2000000 in
set_option maxRecDepth 100000 in
theorem first_c (b : Nat) (s r : ByteArray) (x y : UInt8) (gb : Bool) (w : World) (hb : w.heap[b]? = some (.cells #[.string s] 9 (0, 0))) (hc : Cut2 b s x y r) (hx : ¬ 1 < x.toNat) (hg : ((x.toNat : Int) == 1) = gb) (hy : r.size < y.toNat) :
    Calls Tryd.prog 62 #[.pointer (some ⟨b, 0, none⟩)] w (Good ⟨gb, ⟨#[]⟩, ⟨#[]⟩⟩ false b s r w) := by
  have hu := Tryd.underlying45
  have HM := Aside0.mk (Mv.refl hb)
  have hlt := Aside0.mk (Array.getElem?_eq_some_iff.1 hb).1
  have HC := Aside0.mk hc
  have HY := Aside0.mk hy
  have d1 : decide (1 < x.toNat) = false := decide_eq_false hx
  have d2 : decide ((1 : Int) < (x.toNat : Int)) = false := decide_eq_false (by omega)
  clear hb hc hx hy
  go_enter Tryd.func62, Tryd.ntmps62
  go_upto_region 5 with (first
    | (refine box_lay 2 rfl rfl 45 rfl #[.bool false, .string ⟨#[]⟩, .string ⟨#[]⟩] (by kernel_rfl) ?_; intro gr HG w1 HK HW; have HM1 := Aside0.mk (HM.out.step hlt.out HW.out (Nat.le_refl _)))
    | (go_at_call 80; refine (HC.out _ HM1.out.1).mono ?_; rintro e w2 ⟨rfl, hw2⟩; have HM2 := Aside0.mk (HM1.out.cell r); have HK2 := Aside0.mk ((Below.heap_setCell w1 ⟨b, 0, none⟩ (.string r) gr (by have := HG.out; have := hlt.out; dsimp only; omega)).trans HK.out); rw [← hw2] at HM2 HK2; clear hw2)
    | (refine box_lay 6 rfl rfl 45 rfl #[.bool false, .string ⟨#[]⟩, .string ⟨#[]⟩] (by kernel_rfl) ?_; intro go HGo w3 HKo HW3; have HM3 := Aside0.mk (HM2.out.step hlt.out HW3.out HM2.out.size); have HK3 := Aside0.mk (blk_below HK2.out HW3.out); have HLo := Aside0.mk (show w.heap.size < go by have := HGo.out; have := HG.out; have := (Array.getElem?_eq_some_iff.1 HK2.out).1; omega))
    | (refine box_put rfl rfl 45 _ _ rfl go _ #[.bool gb, .string ⟨#[]⟩, .string ⟨#[]⟩] rfl rfl HKo.out rfl rfl (by kernel_rfl) ?_; intro w4 HKo4 HW4 HO4 HS4; have HM4 := Aside0.mk (HM3.out.step hlt.out HW4.out (Nat.le_of_lt HLo.out)); have HK4 := Aside0.mk ((HO4.out gr (by have := HLo.out; have := HG.out; omega)).trans HK3.out)))
  go_upto_region 6 with (go_at_call 80; refine (cut_short b r y.toNat _ HM4.out.1 HY.out).mono ?_; rintro e w5 ⟨rfl, hw5⟩; have HM5 := HM4; have HKo5 := HKo4; have HK5 := HK4; rw [← hw5] at HM5 HKo5 HK5; clear hw5; have c0 : w5.cell? ⟨go, 0, none⟩ = some (.bool gb) := (blk_cell HKo5.out 0).trans rfl; have c1 : w5.cell? ⟨go, 1, none⟩ = some (.string ⟨#[]⟩) := (blk_cell HKo5.out 1).trans rfl; have c2 : w5.cell? ⟨go, 2, none⟩ = some (.string ⟨#[]⟩) := (blk_cell HKo5.out 2).trans rfl; have f1 := blk_frozen HKo5.out 1)
  have HM6 := Aside0.mk (HM5.out.step hlt.out ((Below.refl go w5).setCell (p := ⟨go, 1, none⟩) (Nat.le_refl _) (.string ⟨#[]⟩)) (Nat.le_of_lt HLo.out))
  have HK6 := Aside0.mk ((Below.heap_setCell w5 ⟨go, 1, none⟩ (.string ⟨#[]⟩) gr (by have := HLo.out; have := HG.out; dsimp only; omega)).trans HK5.out)
  have HKo6 := Aside0.mk (blk_put (cs' := #[.bool gb, .string ⟨#[]⟩, .string ⟨#[]⟩]) HKo5.out 1 (.string ⟨#[]⟩) rfl)
  generalize hw6 : w5.setCell ⟨go, 1, none⟩ (.string ⟨#[]⟩) = w6 at *
  clear hw6 c0 c1 c2 f1
  have c0 : w6.cell? ⟨go, 0, none⟩ = some (.bool gb) := (blk_cell HKo6.out 0).trans rfl
  have c1 : w6.cell? ⟨go, 1, none⟩ = some (.string ⟨#[]⟩) := (blk_cell HKo6.out 1).trans rfl
  have c2 : w6.cell? ⟨go, 2, none⟩ = some (.string ⟨#[]⟩) := (blk_cell HKo6.out 2).trans rfl
  go_wp2_with (refine box_put rfl rfl 45 _ _ rfl gr _ #[.bool gb, .string ⟨#[]⟩, .string ⟨#[]⟩] rfl rfl HK6.out rfl rfl (by kernel_rfl) ?_; intro w7 HK7 HW7 HO7 HS7; have HM7 := Aside0.mk (HM6.out.step hlt.out HW7.out (Nat.le_of_eq HG.out.symm)))
  refine bodyPost_ret (res_first rfl HK7.out rfl) rfl ?_
  exact ⟨rfl, HM7.out⟩
set_option maxHeartbeats 2000000 in
set_option maxRecDepth 100000 in
theorem first_d (b : Nat) (s r : ByteArray) (x y : UInt8) (w : World) (hb : w.heap[b]? = some (.cells #[.string s] 9 (0, 0))) (hc : Cut2 b s x y r) (hx : ¬ 1 < x.toNat) (hg : ((x.toNat : Int) == 1) = true) (hy : y.toNat ≤ r.size) :
    Calls Tryd.prog 62 #[.pointer (some ⟨b, 0, none⟩)] w (Good ⟨true, r.extract 0 y.toNat, ⟨#[]⟩⟩ true b s (r.extract y.toNat r.size) w) := by
  have hu := Tryd.underlying45
  have HM := Aside0.mk (Mv.refl hb)
  have hlt := Aside0.mk (Array.getElem?_eq_some_iff.1 hb).1
  have HC := Aside0.mk hc
  have HY := Aside0.mk hy
  have d1 : decide (1 < x.toNat) = false := decide_eq_false hx
  have d2 : decide ((1 : Int) < (x.toNat : Int)) = false := decide_eq_false (by omega)
  clear hb hc hx hy
  go_enter Tryd.func62, Tryd.ntmps62
  go_upto_region 5 with (first
    | (refine box_lay 2 rfl rfl 45 rfl #[.bool false, .string ⟨#[]⟩, .string ⟨#[]⟩] (by kernel_rfl) ?_; intro gr HG w1 HK HW; have HM1 := Aside0.mk (HM.out.step hlt.out HW.out (Nat.le_refl _)))
    | (go_at_call 80; refine (HC.out _ HM1.out.1).mono ?_; rintro e w2 ⟨rfl, hw2⟩; have HM2 := Aside0.mk (HM1.out.cell r); have HK2 := Aside0.mk ((Below.heap_setCell w1 ⟨b, 0, none⟩ (.string r) gr (by have := HG.out; have := hlt.out; dsimp only; omega)).trans HK.out); rw [← hw2] at HM2 HK2; clear hw2)
    | (refine box_lay 6 rfl rfl 45 rfl #[.bool false, .string ⟨#[]⟩, .string ⟨#[]⟩] (by kernel_rfl) ?_; intro go HGo w3 HKo HW3; have HM3 := Aside0.mk (HM2.out.step hlt.out HW3.out HM2.out.size); have HK3 := Aside0.mk (blk_below HK2.out HW3.out); have HLo := Aside0.mk (show w.heap.size < go by have := HGo.out; have := HG.out; have := (Array.getElem?_eq_some_iff.1 HK2.out).1; omega))
    | (refine box_put rfl rfl 45 _ _ rfl go _ #[.bool true, .string ⟨#[]⟩, .string ⟨#[]⟩] rfl rfl HKo.out rfl rfl (by kernel_rfl) ?_; intro w4 HKo4 HW4 HO4 HS4; have HM4 := Aside0.mk (HM3.out.step hlt.out HW4.out (Nat.le_of_lt HLo.out)); have HK4 := Aside0.mk ((HO4.out gr (by have := HLo.out; have := HG.out; omega)).trans HK3.out)))
  go_upto_region 6 with (go_at_call 80; refine (cut_long b r y.toNat _ HM4.out.1 HY.out).mono ?_; rintro e w5 ⟨rfl, hw5⟩; have HM5 := Aside0.mk (HM4.out.cell (r.extract y.toNat r.size)); have HKo5 := Aside0.mk ((Below.heap_setCell w4 ⟨b, 0, none⟩ (.string (r.extract y.toNat r.size)) go (by have := HLo.out; have := hlt.out; dsimp only; omega)).trans HKo4.out); have HK5 := Aside0.mk ((Below.heap_setCell w4 ⟨b, 0, none⟩ (.string (r.extract y.toNat r.size)) gr (by have := HG.out; have := hlt.out; dsimp only; omega)).trans HK4.out); rw [← hw5] at HM5 HKo5 HK5; clear hw5; have c0 : w5.cell? ⟨go, 0, none⟩ = some (.bool true) := (blk_cell HKo5.out 0).trans rfl; have c1 : w5.cell? ⟨go, 1, none⟩ = some (.string ⟨#[]⟩) := (blk_cell HKo5.out 1).trans rfl; have c2 : w5.cell? ⟨go, 2, none⟩ = some (.string ⟨#[]⟩) := (blk_cell HKo5.out 2).trans rfl; have f1 := blk_frozen HKo5.out 1)
  have HM6 := Aside0.mk (HM5.out.step hlt.out ((Below.refl go w5).setCell (p := ⟨go, 1, none⟩) (Nat.le_refl _) (.string (r.extract 0 y.toNat))) (Nat.le_of_lt HLo.out))
  have HK6 := Aside0.mk ((Below.heap_setCell w5 ⟨go, 1, none⟩ (.string (r.extract 0 y.toNat)) gr (by have := HLo.out; have := HG.out; dsimp only; omega)).trans HK5.out)
  have HKo6 := Aside0.mk (blk_put (cs' := #[.bool true, .string (r.extract 0 y.toNat), .string ⟨#[]⟩]) HKo5.out 1 (.string (r.extract 0 y.toNat)) rfl)
  generalize hw6 : w5.setCell ⟨go, 1, none⟩ (.string (r.extract 0 y.toNat)) = w6 at *
  clear hw6 c0 c1 c2 f1
  have c0 : w6.cell? ⟨go, 0, none⟩ = some (.bool true) := (blk_cell HKo6.out 0).trans rfl
  have c1 : w6.cell? ⟨go, 1, none⟩ = some (.string (r.extract 0 y.toNat)) := (blk_cell HKo6.out 1).trans rfl
  have c2 : w6.cell? ⟨go, 2, none⟩ = some (.string ⟨#[]⟩) := (blk_cell HKo6.out 2).trans rfl
  go_wp2_with (refine box_put rfl rfl 45 _ _ rfl gr _ #[.bool true, .string (r.extract 0 y.toNat), .string ⟨#[]⟩] rfl rfl HK6.out rfl rfl (by kernel_rfl) ?_; intro w7 HK7 HW7 HO7 HS7; have HM7 := Aside0.mk (HM6.out.step hlt.out HW7.out (Nat.le_of_eq HG.out.symm)))
  refine bodyPost_ret (res_first rfl HK7.out rfl) rfl ?_
  exact ⟨rfl, HM7.out⟩
set_option maxHeartbeats 2000000 in
set_option maxRecDepth 100000 in
theorem first_e (b : Nat) (s r : ByteArray) (x y : UInt8) (w : World) (hb : w.heap[b]? = some (.cells #[.string s] 9 (0, 0))) (hc : Cut2 b s x y r) (hx : ¬ 1 < x.toNat) (hg : ((x.toNat : Int) == 1) = false) (hy : y.toNat ≤ r.size) (hq : (r.extract y.toNat r.size).size < 2) :
    Calls Tryd.prog 62 #[.pointer (some ⟨b, 0, none⟩)] w (Good z45 false b s (r.extract y.toNat r.size) w) := by
  have hu := Tryd.underlying45
  have HM := Aside0.mk (Mv.refl hb)
  have hlt := Aside0.mk (Array.getElem?_eq_some_iff.1 hb).1
  have HC := Aside0.mk hc
  have HY := Aside0.mk hy
  have d1 : decide (1 < x.toNat) = false := decide_eq_false hx
  have d2 : decide ((1 : Int) < (x.toNat : Int)) = false := decide_eq_false (by omega)
  have HQ := Aside0.mk hq
  clear hb hc hx hy hq
  go_enter Tryd.func62, Tryd.ntmps62
  go_upto_region 5 with (first
    | (refine box_lay 2 rfl rfl 45 rfl #[.bool false, .string ⟨#[]⟩, .string ⟨#[]⟩] (by kernel_rfl) ?_; intro gr HG w1 HK HW; have HM1 := Aside0.mk (HM.out.step hlt.out HW.out (Nat.le_refl _)))
    | (go_at_call 80; refine (HC.out _ HM1.out.1).mono ?_; rintro e w2 ⟨rfl, hw2⟩; have HM2 := Aside0.mk (HM1.out.cell r); have HK2 := Aside0.mk ((Below.heap_setCell w1 ⟨b, 0, none⟩ (.string r) gr (by have := HG.out; have := hlt.out; dsimp only; omega)).trans HK.out); rw [← hw2] at HM2 HK2; clear hw2)
    | (refine box_lay 6 rfl rfl 45 rfl #[.bool false, .string ⟨#[]⟩, .string ⟨#[]⟩] (by kernel_rfl) ?_; intro go HGo w3 HKo HW3; have HM3 := Aside0.mk (HM2.out.step hlt.out HW3.out HM2.out.size); have HK3 := Aside0.mk (blk_below HK2.out HW3.out); have HLo := Aside0.mk (show w.heap.size < go by have := HGo.out; have := HG.out; have := (Array.getElem?_eq_some_iff.1 HK2.out).1; omega))
    | (refine box_put rfl rfl 45 _ _ rfl go _ #[.bool false, .string ⟨#[]⟩, .string ⟨#[]⟩] rfl rfl HKo.out rfl rfl (by kernel_rfl) ?_; intro w4 HKo4 HW4 HO4 HS4; have HM4 := Aside0.mk (HM3.out.step hlt.out HW4.out (Nat.le_of_lt HLo.out)); have HK4 := Aside0.mk ((HO4.out gr (by have := HLo.out; have := HG.out; omega)).trans HK3.out)))
  go_upto_region 6 with (go_at_call 80; refine (cut_long b r y.toNat _ HM4.out.1 HY.out).mono ?_; rintro e w5 ⟨rfl, hw5⟩; have HM5 := Aside0.mk (HM4.out.cell (r.extract y.toNat r.size)); have HKo5 := Aside0.mk ((Below.heap_setCell w4 ⟨b, 0, none⟩ (.string (r.extract y.toNat r.size)) go (by have := HLo.out; have := hlt.out; dsimp only; omega)).trans HKo4.out); have HK5 := Aside0.mk ((Below.heap_setCell w4 ⟨b, 0, none⟩ (.string (r.extract y.toNat r.size)) gr (by have := HG.out; have := hlt.out; dsimp only; omega)).trans HK4.out); rw [← hw5] at HM5 HKo5 HK5; clear hw5; have c0 : w5.cell? ⟨go, 0, none⟩ = some (.bool false) := (blk_cell HKo5.out 0).trans rfl; have c1 : w5.cell? ⟨go, 1, none⟩ = some (.string ⟨#[]⟩) := (blk_cell HKo5.out 1).trans rfl; have c2 : w5.cell? ⟨go, 2, none⟩ = some (.string ⟨#[]⟩) := (blk_cell HKo5.out 2).trans rfl; have f1 := blk_frozen HKo5.out 1)
  have HM6 := Aside0.mk (HM5.out.step hlt.out ((Below.refl go w5).setCell (p := ⟨go, 1, none⟩) (Nat.le_refl _) (.string (r.extract 0 y.toNat))) (Nat.le_of_lt HLo.out))
  have HK6 := Aside0.mk ((Below.heap_setCell w5 ⟨go, 1, none⟩ (.string (r.extract 0 y.toNat)) gr (by have := HLo.out; have := HG.out; dsimp only; omega)).trans HK5.out)
  have HKo6 := Aside0.mk (blk_put (cs' := #[.bool false, .string (r.extract 0 y.toNat), .string ⟨#[]⟩]) HKo5.out 1 (.string (r.extract 0 y.toNat)) rfl)
  generalize hw6 : w5.setCell ⟨go, 1, none⟩ (.string (r.extract 0 y.toNat)) = w6 at *
  clear hw6 c0 c1 c2 f1
  have c0 : w6.cell? ⟨go, 0, none⟩ = some (.bool false) := (blk_cell HKo6.out 0).trans rfl
  have c1 : w6.cell? ⟨go, 1, none⟩ = some (.string (r.extract 0 y.toNat)) := (blk_cell HKo6.out 1).trans rfl
  have c2 : w6.cell? ⟨go, 2, none⟩ = some (.string ⟨#[]⟩) := (blk_cell HKo6.out 2).trans rfl
  go_wp2_with (first
    | (go_at_call 80; refine (cut_short b _ 2 _ HM6.out.1 HQ.out).mono ?_; rintro e w8 ⟨rfl, hw8⟩; have HM8 := HM6; have HK8 := HK6; rw [← hw8] at HM8 HK8; clear hw8)
    | (refine box_put rfl rfl 45 _ _ rfl gr _ #[.bool false, .string ⟨#[]⟩, .string ⟨#[]⟩] rfl rfl HK8.out rfl rfl (by kernel_rfl) ?_; intro w7 HK7 HW7 HO7 HS7; have HM7 := Aside0.mk (HM8.out.step hlt.out HW7.out (Nat.le_of_eq HG.out.symm))))
  refine bodyPost_ret (res_first rfl HK7.out rfl) rfl ?_
  exact ⟨rfl, HM7.out⟩
set_option maxHeartbeats 2000000 in
set_option maxRecDepth 100000 in
theorem first_f (b : Nat) (s r : ByteArray) (x y u v : UInt8) (z : ByteArray) (w : World) (hb : w.heap[b]? = some (.cells #[.string s] 9 (0, 0))) (hc : Cut2 b s x y r) (hx : ¬ 1 < x.toNat) (hg : ((x.toNat : Int) == 1) = false) (hy : y.toNat ≤ r.size) (hq : Cut2 b (r.extract y.toNat r.size) u v z) (hz : z.size < u.toNat * 256 + v.toNat) :
    Calls Tryd.prog 62 #[.pointer (some ⟨b, 0, none⟩)] w (Good ⟨false, r.extract 0 y.toNat, ⟨#[]⟩⟩ false b s z w) := by
  have hu := Tryd.underlying45
  have HM := Aside0.mk (Mv.refl hb)
  have hlt := Aside0.mk (Array.getElem?_eq_some_iff.1 hb).1
  have HC := Aside0.mk hc
  have HY := Aside0.mk hy
  have d1 : decide (1 < x.toNat) = false := decide_eq_false hx
  have d2 : decide ((1 : Int) < (x.toNat : Int)) = false := decide_eq_false (by omega)
  have HQ := Aside0.mk hq
  have HZ := Aside0.mk hz
  clear hb hc hx hy hq hz
  go_enter Tryd.func62, Tryd.ntmps62
  go_upto_region 5 with (first
    | (refine box_lay 2 rfl rfl 45 rfl #[.bool false, .string ⟨#[]⟩, .string ⟨#[]⟩] (by kernel_rfl) ?_; intro gr HG w1 HK HW; have HM1 := Aside0.mk (HM.out.step hlt.out HW.out (Nat.le_refl _)))
    | (go_at_call 80; refine (HC.out _ HM1.out.1).mono ?_; rintro e w2 ⟨rfl, hw2⟩; have HM2 := Aside0.mk (HM1.out.cell r); have HK2 := Aside0.mk ((Below.heap_setCell w1 ⟨b, 0, none⟩ (.string r) gr (by have := HG.out; have := hlt.out; dsimp only; omega)).trans HK.out); rw [← hw2] at HM2 HK2; clear hw2)
    | (refine box_lay 6 rfl rfl 45 rfl #[.bool false, .string ⟨#[]⟩, .string ⟨#[]⟩] (by kernel_rfl) ?_; intro go HGo w3 HKo HW3; have HM3 := Aside0.mk (HM2.out.step hlt.out HW3.out HM2.out.size); have HK3 := Aside0.mk (blk_below HK2.out HW3.out); have HLo := Aside0.mk (show w.heap.size < go by have := HGo.out; have := HG.out; have := (Array.getElem?_eq_some_iff.1 HK2.out).1; omega))
    | (refine box_put rfl rfl 45 _ _ rfl go _ #[.bool false, .string ⟨#[]⟩, .string ⟨#[]⟩] rfl rfl HKo.out rfl rfl (by kernel_rfl) ?_; intro w4 HKo4 HW4 HO4 HS4; have HM4 := Aside0.mk (HM3.out.step hlt.out HW4.out (Nat.le_of_lt HLo.out)); have HK4 := Aside0.mk ((HO4.out gr (by have := HLo.out; have := HG.out; omega)).trans HK3.out)))
  go_upto_region 6 with (go_at_call 80; refine (cut_long b r y.toNat _ HM4.out.1 HY.out).mono ?_; rintro e w5 ⟨rfl, hw5⟩; have HM5 := Aside0.mk (HM4.out.cell (r.extract y.toNat r.size)); have HKo5 := Aside0.mk ((Below.heap_setCell w4 ⟨b, 0, none⟩ (.string (r.extract y.toNat r.size)) go (by have := HLo.out; have := hlt.out; dsimp only; omega)).trans HKo4.out); have HK5 := Aside0.mk ((Below.heap_setCell w4 ⟨b, 0, none⟩ (.string (r.extract y.toNat r.size)) gr (by have := HG.out; have := hlt.out; dsimp only; omega)).trans HK4.out); rw [← hw5] at HM5 HKo5 HK5; clear hw5; have c0 : w5.cell? ⟨go, 0, none⟩ = some (.bool false) := (blk_cell HKo5.out 0).trans rfl; have c1 : w5.cell? ⟨go, 1, none⟩ = some (.string ⟨#[]⟩) := (blk_cell HKo5.out 1).trans rfl; have c2 : w5.cell? ⟨go, 2, none⟩ = some (.string ⟨#[]⟩) := (blk_cell HKo5.out 2).trans rfl; have f1 := blk_frozen HKo5.out 1)
  have HM6 := Aside0.mk (HM5.out.step hlt.out ((Below.refl go w5).setCell (p := ⟨go, 1, none⟩) (Nat.le_refl _) (.string (r.extract 0 y.toNat))) (Nat.le_of_lt HLo.out))
  have HK6 := Aside0.mk ((Below.heap_setCell w5 ⟨go, 1, none⟩ (.string (r.extract 0 y.toNat)) gr (by have := HLo.out; have := HG.out; dsimp only; omega)).trans HK5.out)
  have HKo6 := Aside0.mk (blk_put (cs' := #[.bool false, .string (r.extract 0 y.toNat), .string ⟨#[]⟩]) HKo5.out 1 (.string (r.extract 0 y.toNat)) rfl)
  generalize hw6 : w5.setCell ⟨go, 1, none⟩ (.string (r.extract 0 y.toNat)) = w6 at *
  clear hw6 c0 c1 c2 f1
  have c0 : w6.cell? ⟨go, 0, none⟩ = some (.bool false) := (blk_cell HKo6.out 0).trans rfl
  have c1 : w6.cell? ⟨go, 1, none⟩ = some (.string (r.extract 0 y.toNat)) := (blk_cell HKo6.out 1).trans rfl
  have c2 : w6.cell? ⟨go, 2, none⟩ = some (.string ⟨#[]⟩) := (blk_cell HKo6.out 2).trans rfl
  go_upto_region 11 with (go_at_call 80; refine (HQ.out _ HM6.out.1).mono ?_; rintro e w8 ⟨rfl, hw8⟩; have HM8 := Aside0.mk (HM6.out.cell z); have HKo8 := Aside0.mk ((Below.heap_setCell w6 ⟨b, 0, none⟩ (.string z) go (by have := HLo.out; have := hlt.out; dsimp only; omega)).trans HKo6.out); have HK8 := Aside0.mk ((Below.heap_setCell w6 ⟨b, 0, none⟩ (.string z) gr (by have := HG.out; have := hlt.out; dsimp only; omega)).trans HK6.out); rw [← hw8] at HM8 HKo8 HK8; clear hw8)
  have c3 : w8.cell? ⟨go, 2, none⟩ = some (.string ⟨#[]⟩) := (blk_cell HKo8.out 2).trans rfl
  have f3 := blk_frozen HKo8.out 2
  have CZ := Aside0.mk (fun (W : World) (h : W.heap[b]? = some (.cells #[.string z] 9 (0, 0))) => cut_short b z (u.toNat * 256 + v.toNat) W h HZ.out)
  simp only [← num16] at CZ
  go_region_with (go_at_call 80; refine (CZ.out _ ?_).mono ?_; exact HM8.out.1; rintro e w9 ⟨rfl, rfl⟩)
  all_goals (
    (try simp only [Act.put, List.setIfInBounds_toArray, List.set_cons_zero, List.set_cons_succ])
    have HM9 := Aside0.mk (HM8.out.step hlt.out (((Below.refl go w8).setCell (p := ⟨go, 2, none⟩) (Nat.le_refl _) (.string ⟨#[]⟩)).drew) (Nat.le_of_lt HLo.out))
    have HK9 := Aside0.mk (blk_drew ((Below.heap_setCell (w8) ⟨go, 2, none⟩ (.string ⟨#[]⟩) gr (by have := HLo.out; have := HG.out; dsimp only; omega)).trans HK8.out))
    have HKo9 := Aside0.mk (blk_drew (blk_put (cs' := #[.bool false, .string (r.extract 0 y.toNat), .string ⟨#[]⟩]) HKo8.out 2 (.string ⟨#[]⟩) rfl))
    generalize hw9 : ((w8).setCell ⟨go, 2, none⟩ (.string ⟨#[]⟩)).drew = w9 at *
    clear hw9
    have e0 : w9.cell? ⟨go, 0, none⟩ = some (.bool false) := (blk_cell HKo9.out 0).trans rfl
    have e1 : w9.cell? ⟨go, 1, none⟩ = some (.string (r.extract 0 y.toNat)) := (blk_cell HKo9.out 1).trans rfl
    have e2 : w9.cell? ⟨go, 2, none⟩ = some (.string ⟨#[]⟩) := (blk_cell HKo9.out 2).trans rfl
    go_wp2_with (refine box_put rfl rfl 45 _ _ rfl gr _ #[.bool false, .string (r.extract 0 y.toNat), .string ⟨#[]⟩] rfl rfl HK9.out rfl rfl (by kernel_rfl) ?_; intro w7 HK7 HW7 HO7 HS7; have HM7 := Aside0.mk (HM9.out.step hlt.out HW7.out (Nat.le_of_eq HG.out.symm)))
    refine bodyPost_ret (res_first rfl HK7.out rfl) rfl ?_
    exact ⟨rfl, HM7.out⟩)
set_option maxHeartbeats 2000000 in
set_option maxRecDepth 100000 in
theorem first_g (b : Nat) (s r : ByteArray) (x y u v : UInt8) (z : ByteArray) (w : World) (hb : w.heap[b]? = some (.cells #[.string s] 9 (0, 0))) (hc : Cut2 b s x y r) (hx : ¬ 1 < x.toNat) (hg : ((x.toNat : Int) == 1) = false) (hy : y.toNat ≤ r.size) (hq : Cut2 b (r.extract y.toNat r.size) u v z) (m : Nat) (hm : u.toNat * 256 + v.toNat = m) (hz : m ≤ z.size) :
    Calls Tryd.prog 62 #[.pointer (some ⟨b, 0, none⟩)] w (Good ⟨false, r.extract 0 y.toNat, z.extract 0 m⟩ true b s (z.extract m z.size) w) := by
  have hu := Tryd.underlying45
  have HM := Aside0.mk (Mv.refl hb)
  have hlt := Aside0.mk (Array.getElem?_eq_some_iff.1 hb).1
  have HC := Aside0.mk hc
  have HY := Aside0.mk hy
  have d1 : decide (1 < x.toNat) = false := decide_eq_false hx
  have d2 : decide ((1 : Int) < (x.toNat : Int)) = false := decide_eq_false (by omega)
  have HQ := Aside0.mk hq
  have HZ := Aside0.mk hz
  clear hb hc hx hy hq hz
  go_enter Tryd.func62, Tryd.ntmps62
  go_upto_region 5 with (first
    | (refine box_lay 2 rfl rfl 45 rfl #[.bool false, .string ⟨#[]⟩, .string ⟨#[]⟩] (by kernel_rfl) ?_; intro gr HG w1 HK HW; have HM1 := Aside0.mk (HM.out.step hlt.out HW.out (Nat.le_refl _)))
    | (go_at_call 80; refine (HC.out _ HM1.out.1).mono ?_; rintro e w2 ⟨rfl, hw2⟩; have HM2 := Aside0.mk (HM1.out.cell r); have HK2 := Aside0.mk ((Below.heap_setCell w1 ⟨b, 0, none⟩ (.string r) gr (by have := HG.out; have := hlt.out; dsimp only; omega)).trans HK.out); rw [← hw2] at HM2 HK2; clear hw2)
    | (refine box_lay 6 rfl rfl 45 rfl #[.bool false, .string ⟨#[]⟩, .string ⟨#[]⟩] (by kernel_rfl) ?_; intro go HGo w3 HKo HW3; have HM3 := Aside0.mk (HM2.out.step hlt.out HW3.out HM2.out.size); have HK3 := Aside0.mk (blk_below HK2.out HW3.out); have HLo := Aside0.mk (show w.heap.size < go by have := HGo.out; have := HG.out; have := (Array.getElem?_eq_some_iff.1 HK2.out).1; omega))
    | (refine box_put rfl rfl 45 _ _ rfl go _ #[.bool false, .string ⟨#[]⟩, .string ⟨#[]⟩] rfl rfl HKo.out rfl rfl (by kernel_rfl) ?_; intro w4 HKo4 HW4 HO4 HS4; have HM4 := Aside0.mk (HM3.out.step hlt.out HW4.out (Nat.le_of_lt HLo.out)); have HK4 := Aside0.mk ((HO4.out gr (by have := HLo.out; have := HG.out; omega)).trans HK3.out)))
  go_upto_region 6 with (go_at_call 80; refine (cut_long b r y.toNat _ HM4.out.1 HY.out).mono ?_; rintro e w5 ⟨rfl, hw5⟩; have HM5 := Aside0.mk (HM4.out.cell (r.extract y.toNat r.size)); have HKo5 := Aside0.mk ((Below.heap_setCell w4 ⟨b, 0, none⟩ (.string (r.extract y.toNat r.size)) go (by have := HLo.out; have := hlt.out; dsimp only; omega)).trans HKo4.out); have HK5 := Aside0.mk ((Below.heap_setCell w4 ⟨b, 0, none⟩ (.string (r.extract y.toNat r.size)) gr (by have := HG.out; have := hlt.out; dsimp only; omega)).trans HK4.out); rw [← hw5] at HM5 HKo5 HK5; clear hw5; have c0 : w5.cell? ⟨go, 0, none⟩ = some (.bool false) := (blk_cell HKo5.out 0).trans rfl; have c1 : w5.cell? ⟨go, 1, none⟩ = some (.string ⟨#[]⟩) := (blk_cell HKo5.out 1).trans rfl; have c2 : w5.cell? ⟨go, 2, none⟩ = some (.string ⟨#[]⟩) := (blk_cell HKo5.out 2).trans rfl; have f1 := blk_frozen HKo5.out 1)
  have HM6 := Aside0.mk (HM5.out.step hlt.out ((Below.refl go w5).setCell (p := ⟨go, 1, none⟩) (Nat.le_refl _) (.string (r.extract 0 y.toNat))) (Nat.le_of_lt HLo.out))
  have HK6 := Aside0.mk ((Below.heap_setCell w5 ⟨go, 1, none⟩ (.string (r.extract 0 y.toNat)) gr (by have := HLo.out; have := HG.out; dsimp only; omega)).trans HK5.out)
  have HKo6 := Aside0.mk (blk_put (cs' := #[.bool false, .string (r.extract 0 y.toNat), .string ⟨#[]⟩]) HKo5.out 1 (.string (r.extract 0 y.toNat)) rfl)
  generalize hw6 : w5.setCell ⟨go, 1, none⟩ (.string (r.extract 0 y.toNat)) = w6 at *
  clear hw6 c0 c1 c2 f1
  have c0 : w6.cell? ⟨go, 0, none⟩ = some (.bool false) := (blk_cell HKo6.out 0).trans rfl
  have c1 : w6.cell? ⟨go, 1, none⟩ = some (.string (r.extract 0 y.toNat)) := (blk_cell HKo6.out 1).trans rfl
  have c2 : w6.cell? ⟨go, 2, none⟩ = some (.string ⟨#[]⟩) := (blk_cell HKo6.out 2).trans rfl
  go_upto_region 11 with (go_at_call 80; refine (HQ.out _ HM6.out.1).mono ?_; rintro e w8 ⟨rfl, hw8⟩; have HM8 := Aside0.mk (HM6.out.cell z); have HKo8 := Aside0.mk ((Below.heap_setCell w6 ⟨b, 0, none⟩ (.string z) go (by have := HLo.out; have := hlt.out; dsimp only; omega)).trans HKo6.out); have HK8 := Aside0.mk ((Below.heap_setCell w6 ⟨b, 0, none⟩ (.string z) gr (by have := HG.out; have := hlt.out; dsimp only; omega)).trans HK6.out); rw [← hw8] at HM8 HKo8 HK8; clear hw8)
  have c3 : w8.cell? ⟨go, 2, none⟩ = some (.string ⟨#[]⟩) := (blk_cell HKo8.out 2).trans rfl
  have f3 := blk_frozen HKo8.out 2
  have nm := num16 u v
  rw [hm] at nm
  have CZ := Aside0.mk (fun (W : World) (h : W.heap[b]? = some (.cells #[.string z] 9 (0, 0))) => cut_long b z m W h HZ.out)
  rw [← nm] at CZ
  have NBG := Aside0.mk (show go ≠ b by have := HLo.out; have := hlt.out; omega)
  have HM9 := Aside0.mk (HM8.out.cell (z.extract m z.size))
  have HKo9 := Aside0.mk ((Below.heap_setCell w8 ⟨b, 0, none⟩ (.string (z.extract m z.size)) go NBG.out).trans HKo8.out)
  have HK9 := Aside0.mk ((Below.heap_setCell w8 ⟨b, 0, none⟩ (.string (z.extract m z.size)) gr (by have := HG.out; have := hlt.out; dsimp only; omega)).trans HK8.out)
  have c4 : (w8.setCell ⟨b, 0, none⟩ (.string (z.extract m z.size))).cell? ⟨go, 2, none⟩ = some (.string ⟨#[]⟩) := (blk_cell HKo9.out 2).trans rfl
  have f4 := blk_frozen HKo9.out 2
  clear nm hm
  go_region_with (go_at_call 80; refine (CZ.out _ ?_).mono ?_; exact HM8.out.1; rintro e w9 ⟨rfl, rfl⟩)
  all_goals (
    (try simp only [Act.put, List.setIfInBounds_toArray, List.set_cons_zero, List.set_cons_succ])
    have HM10 := Aside0.mk (HM9.out.step hlt.out (((Below.refl go (w8.setCell ⟨b, 0, none⟩ (.string (z.extract m z.size)))).setCell (p := ⟨go, 2, none⟩) (Nat.le_refl _) (.string (z.extract 0 m))).drew) (Nat.le_of_lt HLo.out))
    have HK10 := Aside0.mk (blk_drew ((Below.heap_setCell (w8.setCell ⟨b, 0, none⟩ (.string (z.extract m z.size))) ⟨go, 2, none⟩ (.string (z.extract 0 m)) gr (by have := HLo.out; have := HG.out; dsimp only; omega)).trans HK9.out))
    have HKo10 := Aside0.mk (blk_drew (blk_put (cs' := #[.bool false, .string (r.extract 0 y.toNat), .string (z.extract 0 m)]) HKo9.out 2 (.string (z.extract 0 m)) rfl))
    generalize hw10 : ((w8.setCell ⟨b, 0, none⟩ (.string (z.extract m z.size))).setCell ⟨go, 2, none⟩ (.string (z.extract 0 m))).drew = w10 at *
    clear hw10
    have e0 : w10.cell? ⟨go, 0, none⟩ = some (.bool false) := (blk_cell HKo10.out 0).trans rfl
    have e1 : w10.cell? ⟨go, 1, none⟩ = some (.string (r.extract 0 y.toNat)) := (blk_cell HKo10.out 1).trans rfl
    have e2 : w10.cell? ⟨go, 2, none⟩ = some (.string (z.extract 0 m)) := (blk_cell HKo10.out 2).trans rfl
    go_wp2_with (refine box_put rfl rfl 45 _ _ rfl gr _ #[.bool false, .string (r.extract 0 y.toNat), .string (z.extract 0 m)] rfl rfl HK10.out rfl rfl (by kernel_rfl) ?_; intro w7 HK7 HW7 HO7 HS7; have HM7 := Aside0.mk (HM10.out.step hlt.out HW7.out (Nat.le_of_eq HG.out.symm)))
    refine bodyPost_ret (res_first rfl HK7.out rfl) rfl ?_
    exact ⟨rfl, HM7.out⟩)
theorem Cut2.of {b : Nat} {s : ByteArray} (h : ¬ s.size < 2) : Cut2 b s (s.get! 0) (s.get! 1) (s.extract 2 s.size) := fun W hW => cut2 b s W hW (by omega)
theorem first_calls (b : Nat) (s : ByteArray) (w : World) (hb : w.heap[b]? = some (.cells #[.string s] 9 (0, 0))) :
    Calls Tryd.prog 62 #[.pointer (some ⟨b, 0, none⟩)] w (Good (firstB s).1 (firstB s).2.1 b s (firstB s).2.2 w) := by
  unfold firstB
  by_cases h1 : s.size < 2
  · rw [if_pos h1]
    exact first_a b s w hb h1
  · rw [if_neg h1]
    have C := Cut2.of (b := b) h1
    generalize s.get! 0 = x at *
    generalize s.get! 1 = y at *
    generalize s.extract 2 s.size = r at *
    by_cases h2 : 1 < x.toNat
    · rw [if_pos h2]
      exact first_b b s r x y w hb C h2
    · rw [if_neg h2]
      by_cases h3 : r.size < y.toNat
      · rw [if_pos h3]
        exact first_c b s r x y _ w hb C h2 (by rw [Bool.eq_iff_iff]; simp only [beq_iff_eq]; omega) h3
      · rw [if_neg h3]
        by_cases h4 : x.toNat = 1
        · rw [if_pos h4]
          exact first_d b s r x y w hb C h2 (by simp only [beq_iff_eq]; omega) (by omega)
        · rw [if_neg h4]
          have hg : ((x.toNat : Int) == 1) = false := by
            rw [beq_eq_false_iff_ne]
            omega
          unfold firstB.firstC
          by_cases h5 : (r.extract y.toNat r.size).size < 2
          · rw [if_pos h5]
            exact first_e b s r x y w hb C h2 hg (by omega) h5
          · rw [if_neg h5]
            have C2 := Cut2.of (b := b) h5
            by_cases h6 : ((r.extract y.toNat r.size).extract 2 (r.extract y.toNat r.size).size).size < ((r.extract y.toNat r.size).get! 0).toNat * 256 + ((r.extract y.toNat r.size).get! 1).toNat
            · rw [if_pos h6]
              exact first_f b s r x y _ _ _ w hb C h2 hg (by omega) C2 h6
            · rw [if_neg h6]
              exact first_g b s r x y _ _ _ w hb C h2 hg (by omega) C2 _ rfl (by omega)
end Go.Proofs.YtnhhbmekjoanbaaDoor.P
set_option linter.unusedVariables false
set_option linter.unusedSimpArgs false
namespace Go.Proofs.YtnhhbmekjoanbaaDoor.P
open Go Go.RowKit
theorem geq_str (t : TypeId) (a b : ByteArray) : binOp .geq t (.string a) (.string b) = pure (.bool (!Op.bytesLess a.toList b.toList)) := by
  rw [binOp_string_geq]
end Go.Proofs.YtnhhbmekjoanbaaDoor.P
namespace Go.Proofs.YtnhhbmekjoanbaaDoor.P
open Go.RowKit Go.Proofs.YtnhhbmekjoanbaaDoorW.PrintWords Go.Proofs.YtnhhbmekjoanbaaDoorW.PrintLast Go.Proofs.YtnhhbmekjoanbaaDoorW.PrintMore
attribute [local go_sem] max2_int min2_int max_two min_two max_three min_three max_four min_four
set_option linter.unusedVariables false
set_option linter.unusedSimpArgs false
theorem rdF_drop {l : List S49} {i : Nat} {x : S49} {r : List S49} (h : l.drop i = x :: r) : rd_T49 l (i : Int) = x ∧ i < l.length ∧ l.drop (i + 1) = r := by
  have hi : i < l.length := by
    apply Nat.lt_of_not_le
    intro c
    rw [List.drop_eq_nil_iff.2 c] at h; cases h
  rw [List.drop_eq_getElem_cons hi] at h
  have h1 := (List.cons.inj h).1
  have h2 := (List.cons.inj h).2
  refine ⟨?_, hi, h2⟩
  unfold rd_T49
  rw [Int.toNat_natCast, List.getD_eq_getElem?_getD, List.getElem?_eq_getElem hi]
  exact h1
/-- Where a path stands. -/
def idxF (p : ByteArray) : Nat → List S49 → Int
  | _, [] => -1
  | i, x :: r => if (x.f0.toList == p.toList) = true then (i : Int) else idxF p (i + 1) r
set_option maxHeartbeats 2000000 in
set_option maxRecDepth 100000 in
theorem get1_any (a b p : ByteArray) (B : Nat) (W : World) (hB : W.heap[B]? = some (.cells #[.string p] 9 (0, 0))) :
    Calls Tryd.prog 31 #[.agg #[.string a, .string b], .pointer (some ⟨B, 0, none⟩)] W fun e w' => e = .returned (.bool (a.toList == p.toList)) ∧ Below W.heap.size W w' := by
  have hu := Tryd.underlying49
  have hB2 := Aside0.mk (blk_below hB ((Below.refl _ W).alloc (Nat.le_refl _) (.cells #[.string a, .string b] 49)))
  clear hB
  have hq : (W.alloc (.cells #[.string a, .string b] 49)).cell? ⟨B, 0, none⟩ = some (.string p) := (blk_cell hB2.out 0).trans rfl
  go_enter Tryd.func31, Tryd.ntmps31
  go_wp2
  go_ret
  exact ⟨rfl, (Below.refl _ _).alloc (Nat.le_refl _) _⟩
set_option maxHeartbeats 8000000 in
set_option maxRecDepth 100000 in
theorem index_any (p : ByteArray) (B : Nat) (A0 : Option Addr) (c0 : Nat) (l : List S49) (w : World) (h0 : Kd.C k49 w A0 l.length l) (g0 : l.length ≤ c0) (hB : w.heap[B]? = some (.cells #[.string p] 9 (0, 0))) :
    Calls Tryd.prog 30 #[.slice A0 l.length c0, .func (.func 31) #[] #[.pointer (some ⟨B, 0, none⟩)]] w fun e w' => e = .returned (.int .i64 (idxF p 0 l)) ∧ Below w.heap.size w w' := by
  have H0 := Aside0.mk h0
  have G0 := Aside0.mk g0
  have HN := Aside0.mk h0.2.1
  have HBB := Aside0.mk hB
  have HB := Aside0.mk (Below.refl w.heap.size w)
  clear h0 g0 hB
  have hu := Tryd.underlying49
  go_enter Tryd.func30, Tryd.ntmps30
  go_wp2_with (fail)
  go_loopg [8] l.length (fun kq v8 W => ∃ (i : Nat), v8 = .int .i64 (i : Int) ∧ Aside0 (kq + i = l.length) ∧ Aside0 (idxF p i (l.drop i) = idxF p 0 l) ∧ Aside0 (Below w.heap.size w W))
  case atStart => exact ⟨0, rfl, ⟨by omega⟩, ⟨rfl⟩, HB⟩
  case round =>
    clear HB
    obtain ⟨i, rfl, HI, HX, HB⟩ := hrel
    cases gk with
    | zero =>
      have ei : i = l.length := by have := HI.out; omega
      subst ei
      have d0 : decide ((l.length : Int) < (l.length : Int)) = false := decide_eq_false (by omega)
      have hE := Aside0.mk (show idxF p 0 l = -1 from by rw [← HX.out, List.drop_of_length_le (Nat.le_refl _)]; rfl)
      go_wp2
      go_ret
      exact ⟨by rw [hE.out]; rfl, HB.out⟩
    | succ k1 =>
      have hlt : i < l.length := by have := HI.out; omega
      obtain ⟨x, r, hxr⟩ : ∃ x r, l.drop i = x :: r := ⟨_, _, List.drop_eq_getElem_cons hlt⟩
      obtain ⟨hx, -, hd⟩ := rdF_drop hxr
      have d0 : decide ((i : Int) < (l.length : Int)) = true := decide_eq_true (by omega)
      have d1 : decide (i < l.length) = true := decide_eq_true hlt
      have p0 : (0 : Int) ≤ (i : Int) := by omega
      have p1 : (i : Int) < (l.length : Int) := by omega
      have hw1 : IntKind.i64.wrap ((i : Int) + 1) = (i : Int) + 1 := by rw [IntKind.wrap_i64]; have := HN.out; omega
      obtain ⟨ad, e1, hx0, hx1⟩ := at_T49 (Kd.C_below H0.out HB.out) (i : Int) p0 p1
      rw [hx, Int.toNat_natCast] at hx0 hx1
      have HRW := Aside0.mk (show (if (x.f0.toList == p.toList) = true then (i : Int) else idxF p (i + 1) r) = idxF p 0 l from by rw [← HX.out, hxr, idxF])
      have HD := Aside0.mk hd
      have HLT := Aside0.mk hlt
      have HG := Aside0.mk (fun W hW => get1_any x.f0 x.f1 p B W hW)
      subst e1
      clear hx hxr hd hlt
      generalize hb0 : (x.f0.toList == p.toList) = b at *
      cases b with
      | true =>
        go_wp2_with (go_at_call 31; refine (HG.out _ (blk_below HBB.out HB.out)).mono ?_; rintro e w10 ⟨rfl, hb⟩; replace HB := Aside0.mk (below_step HB.out hb); clear hb)
        go_ret
        exact ⟨by rw [← HRW.out]; rfl, HB.out⟩
      | false =>
        go_wp2_with (go_at_call 31; refine (HG.out _ (blk_below HBB.out HB.out)).mono ?_; rintro e w10 ⟨rfl, hb⟩; replace HB := Aside0.mk (below_step HB.out hb); clear hb)
        go_roundg k1
        case measure => omega
        case rel => exact ⟨i + 1, by simp, ⟨by have := HI.out; omega⟩, ⟨by rw [HD.out]; exact HRW.out⟩, HB⟩
end Go.Proofs.YtnhhbmekjoanbaaDoor.P
set_option linter.unusedVariables false
set_option linter.unusedSimpArgs false
namespace Go.Proofs.YtnhhbmekjoanbaaDoor.P
open Go Go.RowKit
theorem leq_str (t : TypeId) (a b : ByteArray) : binOp .leq t (.string a) (.string b) = pure (.bool (!Op.bytesLess b.toList a.toList)) := by
  rw [binOp_string_leq, ← less_rev a.toList b.toList, Bool.not_not]
end Go.Proofs.YtnhhbmekjoanbaaDoor.P
namespace Go.Proofs.YtnhhbmekjoanbaaDoor.P
open Go.RowKit Go.Proofs.YtnhhbmekjoanbaaDoorW.PrintWords Go.Proofs.YtnhhbmekjoanbaaDoorW.PrintLast Go.Proofs.YtnhhbmekjoanbaaDoorW.PrintMore
set_option linter.unusedVariables false
def plainB (c : Int) : Bool := decide ((97 ≤ c ∧ c ≤ 122) ∨ (65 ≤ c ∧ c ≤ 90) ∨ (48 ≤ c ∧ c ≤ 57) ∨ c = 45 ∨ c = 95 ∨ c = 46)
theorem plain_f (c : Int) : files_plain.f c = some (plainB c) := by
  unfold files_plain.f plainB
  have e : (c == 46) = decide (c = 46) := rfl
  rw [e]
  repeat' split
  all_goals (congr 1; first | (symm; apply decide_eq_true; omega) | (apply decide_eq_decide.2; omega))
def partB (s : ByteArray) : Bool := (List.range s.size).all (fun i => plainB (bt s (i : Int))) && (!(s.toList == []) && (!(s.toList == [46]) && !(s.toList == [46, 46])))
theorem part_l0 (s : ByteArray) (hs : s.size ≤ 1000000) : ∀ (d i k : Nat), s.size - i = d → i ≤ s.size → d < k → files_part.l0 k s (s.size : Int) (i : Int) =
    some ((List.range' i d).all (fun i => plainB (bt s (i : Int))) && (!(s.toList == []) && (!(s.toList == [46]) && !(s.toList == [46, 46]))))
  | 0, i, k, hd, hi, hk => by
    obtain ⟨k, rfl⟩ : ∃ k', k = k' + 1 := ⟨k - 1, by omega⟩
    rw [files_part.l0, if_neg (by omega)]
    simp only [List.range'_zero, List.all_nil, Bool.true_and]
    by_cases h1 : s.toList = []
    · rw [if_pos h1, h1]; rfl
    · rw [if_neg h1]
      by_cases h2 : s.toList = [46]
      · rw [if_pos h2, h2]; rfl
      · rw [if_neg h2, beq_eq_false_iff_ne.2 h1, beq_eq_false_iff_ne.2 h2]
        rfl
  | d + 1, i, k, hd, hi, hk => by
    obtain ⟨k, rfl⟩ : ∃ k', k = k' + 1 := ⟨k - 1, by omega⟩
    rw [files_part.l0, if_pos (by omega), if_pos (by omega), if_pos (by omega), plain_f]
    simp only [Option.bind_some]
    rw [List.range'_succ, List.all_cons, gw64 (by omega) (by omega)]
    by_cases h : plainB (bt s (i : Int)) = true
    · rw [if_pos h, h, Bool.true_and]
      exact part_l0 s hs d (i + 1) k (by omega) (by omega) (by omega)
    · rw [if_neg h, Bool.eq_false_iff.2 h]
      simp only [Bool.false_and]
theorem part_f (s : ByteArray) (hs : s.size ≤ 1000000) (k : Nat) (hk : s.size < k) : files_part.f k s = some (partB s) := by
  unfold files_part.f partB
  have h := part_l0 s hs s.size 0 k (by omega) (by omega) hk
  rw [List.range_eq_range']
  exact h
end Go.Proofs.YtnhhbmekjoanbaaDoor.P
namespace Go.Proofs.YtnhhbmekjoanbaaDoor.P
open Go.RowKit Go.Proofs.YtnhhbmekjoanbaaDoorW.PrintWords Go.Proofs.YtnhhbmekjoanbaaDoorW.PrintLast Go.Proofs.YtnhhbmekjoanbaaDoorW.PrintMore Go.Proofs.YtnhhbmekjoanbaaDoor.Rg
attribute [local go_sem] Oper.semAt_some
set_option linter.unusedVariables false
set_option linter.unusedSimpArgs false
/-- The three captured variables: the text, the sign, how much of the sign is kept. -/
def SeqB (bs : Nat) (c : UInt8) (x : ByteArray) (W : World) : Prop :=
  W.heap[bs]? = some (.cells #[.string x] 9 (0, 0)) ∧ W.heap[bs + 1]? = some (.cells #[.string ⟨#[c]⟩] 9 (0, 0)) ∧ W.heap[bs + 2]? = some (.cells #[.int .i64 0] 3 (0, 0))
theorem SeqB.cells {bs : Nat} {c : UInt8} {x : ByteArray} {W : World} (h : SeqB bs c x W) : W.cell? ⟨bs, 0, none⟩ = some (.string x) ∧ W.cell? ⟨bs + 1, 0, none⟩ = some (.string ⟨#[c]⟩) ∧ W.cell? ⟨bs + 2, 0, none⟩ = some (.int .i64 0) ∧ W.frozen? ⟨bs, 0, none⟩ = false :=
  ⟨blk_cell h.1 0, blk_cell h.2.1 0, blk_cell h.2.2 0, blk_frozen h.1 0⟩
theorem SeqB.same {bs : Nat} {c : UInt8} {x : ByteArray} {W W' : World} (h : SeqB bs c x W) (hk : ∀ k, (bs ≤ k ∧ k < bs + 3) → W'.heap[k]? = W.heap[k]?) : SeqB bs c x W' :=
  ⟨(hk _ ⟨by omega, by omega⟩).trans h.1, (hk _ ⟨by omega, by omega⟩).trans h.2.1, (hk _ ⟨by omega, by omega⟩).trans h.2.2⟩
theorem SeqB.put {bs : Nat} {c : UInt8} {x : ByteArray} {W : World} (h : SeqB bs c x W) (y : ByteArray) : SeqB bs c y (W.setCell ⟨bs, 0, none⟩ (.string y)) :=
  ⟨blk_put h.1 0 _ rfl, blk_far h.2.1 (p := ⟨bs, 0, none⟩) (by simp) _, blk_far h.2.2 (p := ⟨bs, 0, none⟩) (by simp) _⟩
def leftS (b : Nat) (W : World) : Nat := match W.cell? ⟨b, 0, none⟩ with
  | some (.string x) => x.size
  | _ => 0
theorem leftS_eq {bs : Nat} {c : UInt8} {x : ByteArray} {W : World} (h : SeqB bs c x W) : leftS bs W = x.size := by
  unfold leftS; rw [h.cells.1]
set_option maxHeartbeats 8000000 in
set_option maxRecDepth 100000 in
theorem splitSeq_iter (n bs : Nat) (c : UInt8) (s : ByteArray) (hs : s.size ≤ 1000000) :
    Iter Tryd.prog n 63 #[.pointer (some ⟨bs + 1, 0, none⟩), .pointer (some ⟨bs, 0, none⟩), .pointer (some ⟨bs + 2, 0, none⟩)] (fun x : ByteArray => #[Value.string x]) (spl c s) bs (fun k => bs ≤ k ∧ k < bs + 3) (SeqB bs c s) := by
  intro l J Jx W hW cJ cX hY h0
  have HS := Aside0.mk hs
  have HY := Aside0.mk hY
  have h1 : (⟨#[c]⟩ : ByteArray).size = 1 := rfl
  clear hs hY
  refine callsIn_of_wp Tryd.func63 rfl trivial ?_ rfl
  simp only [Tryd.ntmps63, List.size_toArray, List.length_cons, List.length_nil, Nat.reduceAdd, Nat.reduceSub, Array.replicate_succ, Array.replicate_zero, List.push_toArray, List.append_toArray, List.nil_append, List.cons_append]
  obtain ⟨k0, k1, k2, k3⟩ := hW.cells
  have HB := Aside0.mk hW
  clear hW
  gi_wp2
  gi_loopw [7] (fun v7 wr => ∃ (x : ByteArray) (k : Nat) (done : List ByteArray), Aside0 (SeqB bs c x wr) ∧ Aside0 (J done wr) ∧ Aside0 (spl c s = done ++ pieces c k x ∧ cnt c x = k ∧ x.size ≤ s.size)) (fun _ wr => leftS bs wr)
  case atStart => exact ⟨s, cnt c s, [], HB, ⟨h0⟩, ⟨rfl, rfl, Nat.le_refl _⟩⟩
  case round =>
    clear HB k0 k1 k2 k3 h0
    obtain ⟨x, k, done, HB, HJ, HX⟩ := hrel
    obtain ⟨k0, k1, k2, k3⟩ := HB.out.cells
    have hxs : x.size ≤ 1000000 := Nat.le_trans HX.out.2.2 HS.out
    cases k with
    | zero =>
      have HI := Aside0.mk (cnt_none HX.out.2.1)
      obtain ⟨fn, tmps, assign, body, hy, hR⟩ := HY.out done x [] wr (by rw [HX.out.1]; rfl) HJ.out
      gi_wp2_with (first
        | (refine ⟨trivial, ?_⟩; gi_at_call 65; refine (callsIn_wide.2 (YtnhhbmekjoanbaaDoorS.strings_Index_one x c _)).mono ?_; rintro e w' ⟨rfl, hww⟩; subst w'; rw [HI.out]))
      refine hR.mono ?_
      rintro e W3 (⟨rfl, hJ3, hk3⟩ | ⟨rfl, hJx3⟩)
      · gi_wp2
        go_end0
        exact ⟨⟨_, rfl⟩, .inl (by have := HX.out.1; rw [pieces] at this; rw [this]; exact hJ3)⟩
      · gi_wp2
        go_end0
        exact ⟨⟨_, rfl⟩, .inr ⟨done, x, [], by rw [HX.out.1]; rfl, hJx3⟩⟩
    | succ k =>
      have hx := cnt_pos (c := c) (s := x) (by have := HX.out.2.1; omega)
      obtain ⟨m, hm⟩ : ∃ m, ix c x = m := ⟨_, rfl⟩
      rw [hm] at hx
      have HI := Aside0.mk hx.1
      have hmx := hx.2.1
      have hcx := Aside0.mk hx.2.2
      have HM := Aside0.mk hm
      have m0 : decide ((m : Int) < 0) = false := decide_eq_false (by omega)
      have m1 : (m : Int) ≤ (x.size : Int) := by omega
      have m2 : IntKind.i64.wrap (m : Int) = (m : Int) := by rw [IntKind.wrap_i64]; omega
      have m3 : IntKind.i64.wrap ((m : Int) + 1) = (m : Int) + 1 := by rw [IntKind.wrap_i64]; omega
      have m4 : (m : Int) + 1 ≤ (x.size : Int) := by omega
      have m5 : (0 : Int) ≤ (m : Int) + 1 := by omega
      have m6 : (0 : Int) ≤ (m : Int) := by omega
      obtain ⟨fn, tmps, assign, body, hy, hR⟩ := HY.out done (x.extract 0 m) (pieces c k (x.extract (m + 1) x.size)) wr (by rw [HX.out.1, pieces, HM.out]) HJ.out
      clear hx hm
      gi_wp2_with (first
        | (refine ⟨trivial, ?_⟩; gi_at_call 65; refine (callsIn_wide.2 (YtnhhbmekjoanbaaDoorS.strings_Index_one x c _)).mono ?_; rintro e w' ⟨rfl, hww⟩; subst w'; rw [HI.out]))
      refine hR.mono ?_
      rintro e W3 (⟨rfl, hJ3, hk3⟩ | ⟨rfl, hJx3⟩)
      · have HB3 := Aside0.mk (HB.out.same hk3)
        clear k0 k1 k2 k3 hk3
        obtain ⟨k0, k1, k2, k3⟩ := HB3.out.cells
        replace hJ3 := Aside0.mk hJ3
        gi_wp2
        go_roundw
        case rel => exact ⟨x.extract (m + 1) x.size, k, done ++ [x.extract 0 m], ⟨HB3.out.put _⟩, ⟨cJ.cell _ hJ3.out⟩, ⟨by rw [HX.out.1, pieces, HM.out, List.append_assoc]; rfl, by have := hcx.out; have := HX.out.2.1; omega, by rw [ByteArray.size_extract]; have := HX.out.2.2; omega⟩⟩
        case measure => rw [leftS_eq (HB3.out.put _), leftS_eq HB.out, ByteArray.size_extract]; omega
      · gi_wp2
        refine bodyPost_ret (results_none rfl _ _ _) rfl ?_
        exact ⟨⟨_, rfl⟩, .inr ⟨done, x.extract 0 m, pieces c k (x.extract (m + 1) x.size), by rw [HX.out.1, pieces, HM.out], hJx3⟩⟩
end Go.Proofs.YtnhhbmekjoanbaaDoor.P
