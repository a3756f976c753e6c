/- The shelf's contracts of strings.Builder at this program: WriteString, String, and a builder's beginning. -/
import Derived.Test.YtnhhbmekjoanbaaDoorZFCH0
import Derived.Test.YtnhhbmekjoanbaaDoorZFCM0
import Derived.Shelf.Strings.BuilderK
import Derived.Lib.Bytealg
import Derived.Laws.Cover1
namespace Go.Proofs.YtnhhbmekjoanbaaDoor.P
open Go.RowKit Go.Shelf Go.Proofs.YtnhhbmekjoanbaaDoorW.PrintWords Go.Proofs.YtnhhbmekjoanbaaDoorW.PrintLast Go.Proofs.YtnhhbmekjoanbaaDoorW.PrintMore
set_option linter.unusedVariables false
def r166 : Go.Shelf.Ren := ⟨fun | 166 => 46 | 240 => 60 | 276 => 79 | n => n, fun | 37 => 68 | 70 => 67 | 72 => 70 | 75 => 72 | 80 => 78 | 164 => 112 | n => n, fun n => n⟩
theorem lays166 : Go.Proofs.Lays.n166 Tryd.prog r166 := {
  mixed := by kernel_rfl
  f166 := Tryd.func46.trans (congrArg some (by kernel_rfl))
  f240 := Tryd.func60.trans (congrArg some (by kernel_rfl))
  f276 := Tryd.func79.trans (congrArg some (by kernel_rfl))
  t0 := Tryd.underlying0
  a0 := Tryd.isAgg0
  z0 := Tryd.sizeOf0
  v0 := Tryd.zeroValue0
  t3 := Tryd.underlying3
  a3 := Tryd.isAgg3
  z3 := Tryd.sizeOf3
  v3 := Tryd.zeroValue3
  t4 := Tryd.underlying4
  a4 := Tryd.isAgg4
  z4 := Tryd.sizeOf4
  v4 := Tryd.zeroValue4
  t9 := Tryd.underlying9
  a9 := Tryd.isAgg9
  z9 := Tryd.sizeOf9
  v9 := Tryd.zeroValue9
  t20 := Tryd.underlying20
  a20 := Tryd.isAgg20
  z20 := Tryd.sizeOf20
  v20 := Tryd.zeroValue20
  t37 := Tryd.underlying68
  a37 := Tryd.isAgg68
  z37 := Tryd.sizeOf68
  v37 := Tryd.zeroValue68
  t70 := Tryd.underlying67
  a70 := Tryd.isAgg67
  z70 := Tryd.sizeOf67
  v70 := Tryd.zeroValue67
  t72 := Tryd.underlying70
  a72 := Tryd.isAgg70
  z72 := Tryd.sizeOf70
  v72 := Tryd.zeroValue70
  t75 := Tryd.underlying72
  a75 := Tryd.isAgg72
  z75 := Tryd.sizeOf72
  v75 := Tryd.zeroValue72
  t164 := Tryd.underlying112
  a164 := Tryd.isAgg112
  z164 := Tryd.sizeOf112
  v164 := Tryd.zeroValue112 }
theorem extra166 : Builder.Extra Tryd.prog r166 := {
  sizeBuilder := by kernel_rfl
  liesBuilder := by kernel_rfl
  t5 := Tryd.underlying5
  a5 := Tryd.isAgg5
  z5 := Tryd.sizeOf5
  v5 := Tryd.zeroValue5
  infoByte := by kernel_rfl
  cellsByte := by kernel_rfl
  sizeByte := by kernel_rfl
  neB5 := by decide }
theorem copyRow (B b : Nat) (bs : List Value) (w : World) (h : Lib.IsBuilderF 70 5 B b bs w) (g : Nat) (o : Obj) (hg : w.heap[g]? = some o) (hne : g ≠ b) :
    Calls Tryd.prog 60 #[.pointer (some ⟨b, 0, none⟩)] w fun e w' => e = .returned (.tuple #[]) ∧ (Lib.BuilderAtF 70 5 B b (.pointer (some ⟨b, 0, none⟩)) bs w' ∧ Below B w w' ∧ Lib.OthersKept 5 (some b) w w' ∧ w'.heap[g]? = some o) := by
  rcases h with h | h
  · refine (Any.Builder_copyCheck_fresh { lays166 with } extra166.toX72 b w h.cell0 h.shape h.frozen0).mono ?_
    rintro e w' ⟨rfl, rfl⟩
    exact ⟨rfl, h.used _, (Below.refl B w).setCell (p := ⟨b, 0, none⟩) h.1 _, (Lib.OthersKept.refl _ _ w).setCell ⟨b, 0, none⟩ rfl _, by rw [Below.heap_setCell _ _ _ _ (fun e => hne e)]; exact hg⟩
  · refine (Any.Builder_copyCheck_used { lays166 with } extra166.toX72 b w h.cell0).mono ?_
    rintro e w' ⟨rfl, rfl⟩
    exact ⟨rfl, h, Below.refl B _, Lib.OthersKept.refl _ _ _, hg⟩
set_option maxHeartbeats 2000000 in
set_option maxRecDepth 100000 in
theorem write2 (B b : Nat) (bs : List Value) (g c : Nat) (x y : Int) (w : World) (h : Lib.IsBuilderF 70 5 B b bs w) (hg : w.heap[g]? = some (.cells #[.int .u8 x, .int .u8 y] 5 (0, 0))) (hlen : bs.length + 2 ≤ 140737488355328) (hBw : B ≤ w.heap.size) :
    Calls Tryd.prog 45 #[.pointer (some ⟨b, 0, none⟩), .slice (some ⟨g, 0, none⟩) 2 c] w fun e w' => e = .returned (.tuple #[.int .i64 2, .nilIface]) ∧ Lib.BuilderAtF 70 5 B b (.pointer (some ⟨b, 0, none⟩)) (bs ++ [.int .u8 x, .int .u8 y]) w' ∧ Below B w w' ∧ Lib.OthersKept 5 (some b) w w' := by
  have hgb : g ≠ b := by
    rintro rfl
    rcases h with h | h
    all_goals (
      obtain ⟨_, v, hv, _⟩ := h
      rw [hg] at hv
      exact absurd (Option.some.inj hv) (by simp))
  obtain ⟨i0, hi, hz0, hz1, hz2⟩ := info_parts extra166.infoByte
  have L := lays166
  go_enter Tryd.func45, Tryd.ntmps45
  go_wp2_with (go_at_call 60; refine (copyRow B b bs _ h g _ hg hgb).mono ?_)
  rintro e w1 ⟨rfl, h1, hb1, hk1, hg1⟩
  obtain ⟨hB, v, hbk, hown, hne⟩ := h1
  have c0 : w1.cell? ⟨b, 0, none⟩ = some (.pointer (some ⟨b, 0, none⟩)) := by rw [Lib.cell_of_heap hbk]; rfl
  have c1 : w1.cell? ⟨b, 1, none⟩ = some v := by rw [Lib.cell_of_heap hbk]; rfl
  go_wp2_with (at_builtin; refine wpList_append_ownF _ rfl _ _ 68 rfl B 5 i0 (.int .u8 0) 1 1 L.t37 hi hz0 hz1 hz2 rfl (by decide) _ _ _ rfl hown ⟨g, 0, none⟩ 2 c [.int .u8 x, .int .u8 y] rfl rfl ?c1 ?c2 ?c3 ?c4 ?c5 ?_)
  case c1 =>
    intro j u hj
    match j, hj with
    | 0, hj => simp at hj; subst hj; exact (Lib.cell_of_heap hg1 0).trans rfl
    | 1, hj => simp at hj; subst hj; exact (Lib.cell_of_heap hg1 1).trans rfl
  case c2 => intro u hu; simp at hu; rcases hu with rfl | rfl <;> rfl
  case c3 => unfold maxLen; omega
  case c4 => omega
  case c5 => have := hb1.size; omega
  intro v' w2 hown' hgrow _
  have hlt : b < w1.heap.size := by
    rcases Nat.lt_or_ge b w1.heap.size with h' | h'
    · exact h'
    · simp [Array.getElem?_eq_none h'] at hbk
  have hb2 : w2.heap[b]? = some (.cells #[.pointer (some ⟨b, 0, none⟩), v] 70 (0, 0)) := by
    rw [hgrow.block b hlt (fun e => hne e.symm)]
    exact hbk
  have d0 : w2.cell? ⟨b, 0, none⟩ = some (.pointer (some ⟨b, 0, none⟩)) := by rw [Lib.cell_of_heap hb2]; rfl
  have d1 : w2.cell? ⟨b, 1, none⟩ = some v := by rw [Lib.cell_of_heap hb2]; rfl
  have f1 : w2.frozen? ⟨b, 1, none⟩ = false := Lib.frozen_of_heap hb2 1
  obtain ⟨ao, n', cap, rfl⟩ : ∃ ao n' cap, v' = .slice ao n' cap := by
    rcases hown'.2 with ⟨hv, _⟩ | ⟨g, cap, cur, fz, hv, _⟩
    · exact ⟨_, _, _, hv⟩
    · exact ⟨_, _, _, hv⟩
  go_wp2
  go_ret2
  refine ⟨rfl, ?_, ?_, (hk1.grown hgrow (Lib.ownsRowF_kind hown)).setCell ⟨b, 1, none⟩ rfl _⟩
  · exact Lib.BuilderAtF.put (T := 70) (e := 5) hB hb2 (bs' := bs ++ [.int .u8 x, .int .u8 y]) (by simpa using hown') extra166.neB5
  · exact (hb1.grown hgrow (by have := hb1.size; omega) (fun k hk => (hown.lt k hk).1)).setCell (p := ⟨b, 1, none⟩) hB _
theorem cells_append (a b : ByteArray) : Lib.strCells (a ++ b) = Lib.strCells a ++ Lib.strCells b := by
  simp only [Lib.strCells, ByteArray.data_append, Array.toList_append, List.map_append]
/-- A builder that holds this text, in a block of its own. -/
def BldS (w0 : World) (g : Nat) (t : ByteArray) (w : World) : Prop := Lib.IsBuilderF 70 5 w0.heap.size g (Lib.strCells t) w ∧ Below w0.heap.size w0 w
theorem BldS.alloc {w0 w : World} {g : Nat} {t : ByteArray} (h : BldS w0 g t w) (o : Obj) : BldS w0 g t (w.alloc o) := ⟨h.1.alloc o, h.2.alloc h.2.size _⟩
theorem BldS.step {w0 w w' : World} {g : Nat} {t : ByteArray} (h : BldS w0 g t w) (hb : Below w.heap.size w w') : BldS w0 g t w' := by
  refine ⟨?_, h.2.trans (hb.mono h.2.size)⟩
  have go : ∀ p, Lib.BuilderAtF 70 5 w0.heap.size g p (Lib.strCells t) w → Lib.BuilderAtF 70 5 w0.heap.size g p (Lib.strCells t) w' := by
    rintro p ⟨hB, v, hv, ⟨hw1, hown⟩, hne⟩
    refine ⟨hB, v, (hb.block g (Array.getElem?_eq_some_iff.1 hv).1).trans hv, ⟨hw1, ?_⟩, hne⟩
    rcases hown with hn | ⟨g', cap, cur, fz, hv', hbg, hg, rest⟩
    · exact .inl hn
    · exact .inr ⟨g', cap, cur, fz, hv', hbg, (hb.block g' (Array.getElem?_eq_some_iff.1 hg).1).trans hg, rest⟩
  exact h.1.elim (fun x => Or.inl (go _ x)) (fun x => Or.inr (go _ x))
theorem BldS.text {w0 w : World} {g : Nat} {t : ByteArray} (h : BldS w0 g t w) (s : ByteArray) (hl : t.size + s.size ≤ 140737488355328) :
    Calls Tryd.prog 46 #[.pointer (some ⟨g, 0, none⟩), .string s] w fun e w' => (∃ n : Int, e = .returned (.tuple #[.int .i64 n, .nilIface])) ∧ Aside0 (BldS w0 g (t ++ s) w') ∧ Aside0 (Lib.OthersKept 5 (some g) w w') := by
  refine (Any.Builder_WriteString_k lays166 extra166 w0.heap.size g _ s w h.1 (by rw [Lib.strCells_length]; exact hl) h.2.size).mono ?_
  rintro e w' ⟨rfl, h1, h2, h3⟩
  exact ⟨⟨_, rfl⟩, ⟨⟨by rw [cells_append]; exact Or.inr h1, h.2.trans h2⟩⟩, ⟨h3⟩⟩
theorem BldS.two {w0 w : World} {g : Nat} {t : ByteArray} (h : BldS w0 g t w) (gr c : Nat) (x y : UInt8) (hg : w.heap[gr]? = some (.cells #[.int .u8 (x.toNat : Int), .int .u8 (y.toNat : Int)] 5 (0, 0))) (hl : t.size + 2 ≤ 140737488355328) :
    Calls Tryd.prog 45 #[.pointer (some ⟨g, 0, none⟩), .slice (some ⟨gr, 0, none⟩) 2 c] w fun e w' => (∃ n : Int, e = .returned (.tuple #[.int .i64 n, .nilIface])) ∧ Aside0 (BldS w0 g (t ++ ⟨#[x, y]⟩) w') ∧ Aside0 (Lib.OthersKept 5 (some g) w w') := by
  refine (write2 w0.heap.size g _ gr c x.toNat y.toNat w h.1 hg (by rw [Lib.strCells_length]; exact hl) h.2.size).mono ?_
  rintro e w' ⟨rfl, h1, h2, h3⟩
  exact ⟨⟨_, rfl⟩, ⟨⟨by rw [cells_append]; exact Or.inr h1, h.2.trans h2⟩⟩, ⟨h3⟩⟩
theorem BldS.len {w0 w : World} {g : Nat} {t : ByteArray} (h : BldS w0 g t w) :
    Calls Tryd.prog 47 #[.pointer (some ⟨g, 0, none⟩)] w fun e w' => e = .returned (.int .i64 (t.size : Int)) ∧ w' = w := by
  refine (Tryd.Builder_Len_f w0.heap.size g _ w h.1).mono ?_
  rintro e w' ⟨rfl, h2⟩
  exact ⟨by rw [Lib.strCells_length], h2⟩
theorem BldS.string {w0 w : World} {g : Nat} {t : ByteArray} (h : BldS w0 g t w) :
    Calls Tryd.prog 48 #[.pointer (some ⟨g, 0, none⟩)] w fun e w' => e = .returned (.string t) ∧ Aside0 (Below w0.heap.size w0 w') := by
  have h1 := h.1
  rw [Lib.strCells_eq] at h1
  refine (Tryd.Builder_String_any_k w0.heap.size g _ w h1 h.2.size).mono ?_
  rintro e w' ⟨rfl, _, h2, _⟩
  exact ⟨by rw [Array.toArray_toList], ⟨h.2.trans h2⟩⟩
/-- A fresh builder. -/
theorem BldS.new (w0 w : World) (hb : Below w0.heap.size w0 w) : BldS w0 w.heap.size ⟨#[]⟩ (w.alloc (.cells #[.pointer none, .slice none 0 0] 70 (0, 0))) :=
  ⟨.inl ⟨hb.size, .slice none 0 0, blk_new w _, ⟨by simp [Lib.strCells], .inl ⟨rfl, rfl⟩⟩, by simp [Value.ownBlock]⟩, hb.alloc hb.size _⟩
theorem BldS.lt {w0 w : World} {g : Nat} {t : ByteArray} (h : BldS w0 g t w) : g < w.heap.size := by
  rcases h.1 with ⟨_, v, hv, _⟩ | ⟨_, v, hv, _⟩
  · exact (Array.getElem?_eq_some_iff.1 hv).1
  · exact (Array.getElem?_eq_some_iff.1 hv).1
theorem u8_mod (n : Nat) : ((n : Int) % 256) = (n.toUInt8.toNat : Int) := by
  simp only [Nat.toUInt8, UInt8.toNat_ofNat']
  omega
/-- Two bytes written out of a row made just now. -/
theorem BldS.duo {w0 w : World} {g : Nat} {t : ByteArray} (h : BldS w0 g t w) (x y : Int) (a b : UInt8) (hx : x = (a.toNat : Int)) (hy : y = (b.toNat : Int)) (hl : t.size + 2 ≤ 140737488355328) :
    Calls Tryd.prog 45 #[.pointer (some ⟨g, 0, none⟩), .slice (some ⟨w.heap.size, 0, none⟩) 2 2] (w.alloc (.cells #[.int .u8 x, .int .u8 y] 5 (0, 0))) fun e w' => (∃ n : Int, e = .returned (.tuple #[.int .i64 n, .nilIface])) ∧ Aside0 (BldS w0 g (t ++ ⟨#[a, b]⟩) w') ∧ Aside0 (∀ k o, w.heap[k]? = some o → k ≠ g → (∀ c fz, o ≠ .cells c 5 fz) → w'.heap[k]? = some o) := by
  subst hx
  subst hy
  refine ((h.alloc _).two _ 2 a b (blk_new w _) hl).mono ?_
  rintro e w' ⟨h1, h2, h3⟩
  exact ⟨h1, h2, ⟨fun k o hk hne ho => h3.out k o ((Lib.alloc_old w _ k (Array.getElem?_eq_some_iff.1 hk).1).trans hk) (fun c => hne (Option.some.inj c)) ho⟩⟩
theorem OthersKept.keep {g : Nat} {w w' : World} (h : Lib.OthersKept 5 (some g) w w') (k : Nat) (o : Obj) (hk : w.heap[k]? = some o) (hne : k ≠ g) (ho : ∀ c fz, o ≠ .cells c 5 fz) : w'.heap[k]? = some o :=
  h k o hk (fun c => hne (Option.some.inj c)) ho
end Go.Proofs.YtnhhbmekjoanbaaDoor.P
set_option linter.unusedVariables false
set_option linter.unusedSimpArgs false
namespace Go.Proofs.YtnhhbmekjoanbaaDoor.P
open Go.RowKit Go.Proofs.YtnhhbmekjoanbaaDoorW.PrintWords Go.Proofs.YtnhhbmekjoanbaaDoorW.PrintLast Go.Proofs.YtnhhbmekjoanbaaDoorW.PrintMore
theorem gw64 {x : Int} (h0 : -9223372036854775808 ≤ x) (h1 : x ≤ 9223372036854775807) : wrap64 x = x := by
  unfold wrap64; omega
theorem bt_nat (s : ByteArray) (i : Nat) (h : i < s.size) : bt s (i : Int) = ((s[i]).toNat : Int) := by
  have := bt_at s (i : Int) (by simpa using h)
  simp only [Int.toNat_natCast] at this
  exact this.symm
theorem bt_ext (s : ByteArray) (p a j : Nat) (ha : a ≤ s.size) (hj : p + j < a) : bt (s.extract p a) (j : Int) = bt s ((p + j : Nat) : Int) := by
  have h1 : j < (s.extract p a).size := by rw [ByteArray.size_extract]; omega
  rw [bt_nat _ j h1, bt_nat s (p + j) (by omega), ByteArray.getElem_extract]
theorem tl_inj {a b : ByteArray} (h : a.data.toList = b.data.toList) : a = b := by
  obtain ⟨⟨a⟩⟩ := a
  obtain ⟨⟨b⟩⟩ := b
  simp at h; rw [h]
theorem toList_nil (s : ByteArray) : s.toList = ([] : List UInt8) ↔ s.size = 0 := by
  rw [ByteArray.toList_eq, Array.toList_eq_nil_iff]
  constructor
  · intro h; show s.data.size = 0; rw [h]; rfl
  · intro h; exact Array.eq_empty_of_size_eq_zero h
theorem ext_ext (s : ByteArray) (a b c d : Nat) (h : a + d ≤ b) : (s.extract a b).extract c d = s.extract (a + c) (a + d) := by
  rw [ByteArray.extract_extract]
  congr 1
  omega
theorem ext_all (s : ByteArray) : s.extract 0 s.size = s := ByteArray.extract_zero_size
def ix (c : UInt8) (s : ByteArray) : Nat := (Lib.indexByte s.data.toList c).toNat
def cnt (c : UInt8) (s : ByteArray) : Nat := Lib.countByte s.data.toList c
def pieces (c : UInt8) : Nat → ByteArray → List ByteArray
  | 0, s => [s]
  | k + 1, s => s.extract 0 (ix c s) :: pieces c k (s.extract (ix c s + 1) s.size)
theorem pieces_length (c : UInt8) : ∀ (k : Nat) (s : ByteArray), (pieces c k s).length = k + 1
  | 0, _ => rfl
  | k + 1, s => by rw [pieces, List.length_cons, pieces_length c k]
theorem index_of_count (c : UInt8) (l : List UInt8) : 0 < l.count c → 0 ≤ Lib.indexByte l c ∧ Lib.indexByte l c < l.length ∧ (l.drop ((Lib.indexByte l c).toNat + 1)).count c + 1 = l.count c := by
  induction l with
  | nil => intro h; simp at h
  | cons b l ih =>
    intro h
    unfold Lib.indexByte
    by_cases e : (b == c) = true
    · rw [if_pos e, List.count_cons, if_pos e]; simp
    · rw [if_neg e]
      rw [List.count_cons, if_neg e, Nat.add_zero] at h ⊢
      obtain ⟨h1, h2, h3⟩ := ih h
      have c2 : ¬ (Lib.indexByte l c == -1) = true := by rw [beq_iff_eq]; omega
      rw [if_neg c2]
      refine ⟨by omega, by rw [List.length_cons]; omega, ?_⟩
      rw [show (Lib.indexByte l c + 1).toNat = (Lib.indexByte l c).toNat + 1 by omega, List.drop_succ_cons]
      exact h3
theorem index_none (c : UInt8) (l : List UInt8) : l.count c = 0 → Lib.indexByte l c = -1 := by
  induction l with
  | nil => intro _; rfl
  | cons b l ih =>
    intro h
    unfold Lib.indexByte
    by_cases e : (b == c) = true
    · rw [List.count_cons, if_pos e] at h; omega
    · rw [if_neg e]
      rw [List.count_cons, if_neg e, Nat.add_zero] at h
      rw [ih h]; rfl
theorem cnt_none {c : UInt8} {s : ByteArray} (h : cnt c s = 0) : Lib.indexByte s.data.toList c = -1 := index_none c _ h
theorem cnt_pos {c : UInt8} {s : ByteArray} (h : 0 < cnt c s) : Lib.indexByte s.data.toList c = (ix c s : Int) ∧ ix c s < s.size ∧ cnt c (s.extract (ix c s + 1) s.size) + 1 = cnt c s := by
  obtain ⟨h1, h2, h3⟩ := index_of_count c s.data.toList h
  have hz : s.data.toList.length = s.size := by rw [Array.length_toList]; rfl
  refine ⟨by unfold ix; omega, by unfold ix; omega, ?_⟩
  unfold cnt Lib.countByte ix
  rw [ByteArray.data_extract, Array.toList_extract, List.extract_eq_take_drop]
  rw [List.take_of_length_le (by rw [List.length_drop]; omega)]
  exact h3
theorem cnt_le (c : UInt8) (s : ByteArray) : cnt c s ≤ s.size := by
  have hz : s.data.toList.length = s.size := by rw [Array.length_toList]; rfl
  have := List.count_le_length (a := c) (l := s.data.toList)
  unfold cnt Lib.countByte; omega
theorem pieces_sizes (c : UInt8) : ∀ (k : Nat) (s : ByteArray), ∀ x ∈ pieces c k s, x.size ≤ s.size
  | 0, s, x, h => by simp [pieces] at h; subst h; omega
  | k + 1, s, x, h => by
    rw [pieces] at h
    rcases List.mem_cons.1 h with rfl | h
    · rw [ByteArray.size_extract]; omega
    · have := pieces_sizes c k _ x h
      rw [ByteArray.size_extract] at this; omega
/-- The pieces from `fr` on, the bytes ahead of i being no sign. -/
def sp (c : Int) (s : ByteArray) : Nat → Nat → Nat → List ByteArray
  | 0, fr, _ => [s.extract fr s.size]
  | n + 1, fr, i => if bt s (i : Int) = c then s.extract fr i :: sp c s n (i + 1) (i + 1) else sp c s n fr (i + 1)
theorem sp_none (c : Int) (s : ByteArray) : ∀ (n fr i : Nat), n + i = s.size → (∀ j, i ≤ j → j < s.size → bt s (j : Int) ≠ c) → sp c s n fr i = [s.extract fr s.size]
  | 0, fr, i, _, _ => rfl
  | n + 1, fr, i, hn, h => by rw [sp, if_neg (h i (Nat.le_refl _) (by omega))]; exact sp_none c s n fr (i + 1) (by omega) (fun j h1 h2 => h j (by omega) h2)
theorem sp_first (c : Int) (s : ByteArray) (j : Nat) (hj : j < s.size) (hb : bt s (j : Int) = c) : ∀ (n fr i : Nat), n + i = s.size → i ≤ j → (∀ m, i ≤ m → m < j → bt s (m : Int) ≠ c) → sp c s n fr i = s.extract fr j :: sp c s (s.size - (j + 1)) (j + 1) (j + 1)
  | 0, fr, i, hn, hi, _ => by omega
  | n + 1, fr, i, hn, hi, h => by
    by_cases e : i = j
    · subst e
      rw [sp, if_pos hb, show s.size - (i + 1) = n by omega]
    · rw [sp, if_neg (h i (Nat.le_refl _) (by omega))]
      exact sp_first c s j hj hb n fr (i + 1) (by omega) (by omega) (fun m h1 h2 => h m (by omega) h2)
theorem indexByte_at (c : UInt8) (l : List UInt8) : ∀ m : Nat, Lib.indexByte l c = (m : Int) → l[m]? = some c ∧ ∀ j, j < m → l[j]? ≠ some c := by
  induction l with
  | nil => intro m h; simp [Lib.indexByte] at h
  | cons b l ih =>
    intro m h
    unfold Lib.indexByte at h
    by_cases e : (b == c) = true
    · rw [if_pos e] at h
      obtain rfl : m = 0 := by omega
      refine ⟨by rw [beq_iff_eq] at e; simp [e], fun j hj => by omega⟩
    · rw [if_neg e] at h
      by_cases c2 : (Lib.indexByte l c == -1) = true
      · rw [if_pos c2] at h; omega
      · rw [if_neg c2] at h
        have hge := Lib.indexByte_ge l c
        rw [beq_iff_eq] at c2
        obtain ⟨m', rfl⟩ : ∃ m', m = m' + 1 := ⟨m - 1, by omega⟩
        obtain ⟨h1, h2⟩ := ih m' (by omega)
        refine ⟨by simpa using h1, fun j hj => ?_⟩
        cases j with
        | zero => simp; rw [beq_iff_eq] at e; exact e
        | succ j => simpa using h2 j (by omega)
theorem bt_get (c : UInt8) (x : ByteArray) (m : Nat) (h : m < x.size) : (bt x (m : Int) = (c.toNat : Int)) ↔ x.data.toList[m]? = some c := by
  have hz : x.data.toList.length = x.size := by rw [Array.length_toList]; rfl
  rw [bt_nat x m h, List.getElem?_eq_getElem (by omega)]
  have e : x.data.toList[m]'(by omega) = x[m] := by rw [Array.getElem_toList]; rfl
  rw [e]
  constructor
  · intro h; congr 1; exact UInt8.toNat_inj.1 (by omega)
  · intro h; rw [Option.some.inj h]
theorem cnt_zero {c : UInt8} {x : ByteArray} (h : cnt c x = 0) (m : Nat) (hm : m < x.size) : bt x (m : Int) ≠ (c.toNat : Int) := by
  intro e
  rw [bt_get c x m hm] at e
  have : c ∈ x.data.toList := List.mem_of_getElem? e
  have := List.count_pos_iff.2 this
  unfold cnt Lib.countByte at h
  omega
theorem cnt_first {c : UInt8} {x : ByteArray} (h : 0 < cnt c x) : ix c x < x.size ∧ bt x (ix c x : Int) = (c.toNat : Int) ∧ (∀ m, m < ix c x → bt x (m : Int) ≠ (c.toNat : Int)) ∧ cnt c (x.extract (ix c x + 1) x.size) + 1 = cnt c x := by
  obtain ⟨h1, h2, h3⟩ := cnt_pos h
  obtain ⟨g1, g2⟩ := indexByte_at c x.data.toList (ix c x) h1
  exact ⟨h2, (bt_get c x _ h2).2 g1, fun m hm e => g2 m hm ((bt_get c x m (by omega)).1 e), h3⟩
theorem ext_size {s : ByteArray} (a b : Nat) (ha : b ≤ s.size) : (s.extract a b).size = b - a := by rw [ByteArray.size_extract]; omega
theorem pieces_sp (b : UInt8) (s : ByteArray) : ∀ (c a : Nat), a ≤ s.size → cnt b (s.extract a s.size) = c → pieces b c (s.extract a s.size) = sp (b.toNat : Int) s (s.size - a) a a
  | 0, a, ha, hc => by
    have hz := ext_size (s := s) a s.size (Nat.le_refl _)
    rw [sp_none _ s _ a a (by omega) (fun j h1 h2 => by
      have := cnt_zero hc (j - a) (by omega)
      rw [bt_ext s a s.size (j - a) (Nat.le_refl _) (by omega), show a + (j - a) = j by omega] at this
      exact this)]
    rfl
  | c + 1, a, ha, hc => by
    have hz := ext_size (s := s) a s.size (Nat.le_refl _)
    obtain ⟨h1, h2, h3, h4⟩ := cnt_first (c := b) (x := s.extract a s.size) (by omega)
    rw [pieces]
    generalize ix b (s.extract a s.size) = m at *
    rw [hz] at h1 h4
    rw [bt_ext s a s.size m (Nat.le_refl _) (by omega)] at h2
    have e1 : (s.extract a s.size).extract (m + 1) (s.size - a) = s.extract (a + m + 1) s.size := by
      rw [ext_ext s a s.size (m + 1) (s.size - a) (by omega)]
      congr 1; omega
    rw [hz, e1, ext_ext s a s.size 0 m (by omega)]
    rw [e1] at h4
    rw [sp_first _ s (a + m) (by omega) h2 _ a a (by omega) (by omega) (fun j g1 g2 => by
      have := h3 (j - a) (by omega)
      rw [bt_ext s a s.size (j - a) (Nat.le_refl _) (by omega), show a + (j - a) = j by omega] at this
      exact this)]
    rw [pieces_sp b s c (a + m + 1) (by omega) (by omega)]
    rfl
/-- All pieces. -/
def spl (c : UInt8) (s : ByteArray) : List ByteArray := pieces c (cnt c s) s
theorem spl_sp (c : UInt8) (s : ByteArray) : spl c s = sp (c.toNat : Int) s s.size 0 0 := by
  have h := pieces_sp c s (cnt c (s.extract 0 s.size)) 0 (Nat.zero_le _) rfl
  rw [ext_all] at h
  exact h
theorem spl_length (c : UInt8) (s : ByteArray) : (spl c s).length = cnt c s + 1 := pieces_length c _ s
theorem spl_sizes (c : UInt8) (s : ByteArray) : ∀ x ∈ spl c s, x.size ≤ s.size := pieces_sizes c _ s
end Go.Proofs.YtnhhbmekjoanbaaDoor.P
set_option linter.unusedVariables false
set_option linter.unusedSimpArgs false
namespace Go.Proofs.YtnhhbmekjoanbaaDoor.P
theorem less_rev : ∀ a b : List UInt8, (!(Op.bytesLess a b || a == b)) = Op.bytesLess b a
  | [], [] => rfl
  | [], _ :: _ => rfl
  | _ :: _, [] => rfl
  | x :: xs, y :: ys => by
    have ih := less_rev xs ys
    have e : ((x :: xs) == (y :: ys)) = (x == y && xs == ys) := rfl
    rw [Op.bytesLess, Op.bytesLess, e, ← ih]
    by_cases h1 : x < y
    · have h2 : ¬ y < x := by rw [UInt8.lt_iff_toNat_lt] at *; omega
      have h3 : (y == x) = false := beq_eq_false_iff_ne.2 (fun h => by subst h; exact h2 h1)
      rw [decide_eq_true h1, decide_eq_false h2, h3]; simp
    · by_cases h2 : y < x
      · have h3 : (x == y) = false := beq_eq_false_iff_ne.2 (fun h => by subst h; exact h1 h2)
        rw [decide_eq_false h1, decide_eq_true h2, h3]; simp
      · have h3 : x = y := UInt8.toNat_inj.1 (by rw [UInt8.lt_iff_toNat_lt] at h1 h2; omega)
        subst h3
        rw [decide_eq_false h1]; simp
end Go.Proofs.YtnhhbmekjoanbaaDoor.P
