/- ver: what the row's listed variables give the walk: the table of the powers of ten, and the two errors of numbers. -/
import Derived.Test.YthoiepkejhhcoaaDoorRows
import Derived.Test.YthoiepkejhhcoaaDoorZVQShelf
import Derived.Test.YthoiepkejhhcoaaDoorZVQWWords
import Derived.Lib.LaidTab
import Derived.Stop.LaidErr
import Derived.WalkSmall
import Derived.LaidMore
import Derived.Lay
import Derived.SevenTiedAt
set_option linter.unusedVariables false
set_option linter.unusedSimpArgs false
namespace Go.Proofs.YthoiepkejhhcoaaDoor.P
open Go.RowKit Go.Proofs.YthoiepkejhhcoaaDoorW.PrintWords
def AnErr (w : World) (g : Nat) : Prop := ∃ ev, w.cell? ⟨g, 0, none⟩ = some ev ∧ (ev = .nilIface ∨ ∃ te pe, ev = .iface te pe)
theorem AnErr.below {w w' : World} {g : Nat} (h : AnErr w g) (hb : Below w.heap.size w w') : AnErr w' g := by
  obtain ⟨ev, h1, h2⟩ := h
  exact ⟨ev, pw_cell_below hb h1, h2⟩
structure LaidW (w : World) : Prop where
  tab : Lib.TabIs Tryd.prog w "internal/strconv.uint64pow10" .u64 Lib.pow10Tab
  stx : AnErr w 1
  rng : AnErr w 2
theorem gPow : Tryd.prog.globalNamed "internal/strconv.uint64pow10" = some 3 := by kernel_rfl
theorem LaidW.below {w w' : World} (h : LaidW w) (hb : Below w.heap.size w w') : LaidW w' := by
  refine ⟨?_, h.stx.below hb, h.rng.below hb⟩
  have hc := h.tab.cell gPow 0 (by decide)
  have hl := World.block_lt_of_cell? w _ hc
  have ht := h.tab
  unfold Lib.TabIs at ht ⊢
  exact var?_below hb gPow hl ht
theorem star : "*" ++ "errors.errorString" = "*errors.errorString" := by decide
theorem rowErr (u : TypeId) (h : Tryd.prog.typeName? 3 u = some "*errors.errorString") : u = 104 :=
  typeName_ptr_named (nm := "errors.errorString") (by rw [star]; kernel_rfl) (by kernel_rfl) (by decide) u (by rw [star]; exact h)
theorem gStx : Tryd.prog.globalNamed "strconv.ErrSyntax" = some 1 := by kernel_rfl
theorem gRng : Tryd.prog.globalNamed "strconv.ErrRange" = some 2 := by kernel_rfl
theorem cErr : Tryd.prog.cellsOf 106 = 1 := by kernel_rfl
theorem cStr : Tryd.prog.cellsOf 9 = 1 := by kernel_rfl
theorem cU : Tryd.prog.cellsOf 87 = 1 := by kernel_rfl
theorem cTab : Tryd.prog.cellsOf 107 = 20 := by kernel_rfl
theorem LaidW.of_laid {W : World} (h0 : laidMetH Tryd.prog Rows.verTellsRow.laid W) : LaidW W := by
  rw [MakeChecks.laidMetH_plain _ _ _ (by kernel_rfl)] at h0
  have h : laidMet Tryd.prog [("math/bits.deBruijn32tab", Rows.laid_math_bits_deBruijn32tab), ("math/bits.deBruijn64tab", Rows.laid_math_bits_deBruijn64tab), ("internal/strconv.uint64pow10", Rows.laid_internal_strconv_uint64pow10), ("unicode/utf8.acceptRanges", Rows.laid_unicode_utf8_acceptRanges), ("strconv.ErrRange", Rows.laid_strconv_ErrRange), ("strconv.ErrSyntax", Rows.laid_strconv_ErrSyntax), ("unicode/utf8.first", Rows.laid_unicode_utf8_first)] W := h0
  clear h0
  have h2 := h.tail.tail
  have h4 := h2.tail.tail
  refine ⟨Lib.tabIs_of_head (rest := _) gPow (t := 107) (by kernel_rfl) Tryd.underlying107 Tryd.underlying87 cU cTab h2, ?_, ?_⟩
  · obtain ⟨a1, s1, hv1, -, -, -⟩ := laid_sentinel h4.tail gStx (ti := 49) (by kernel_rfl) Tryd.underlying49 rowErr Tryd.underlying104 Tryd.underlying106 rfl rfl Tryd.underlying9 cErr cStr
    exact ⟨_, by have h0 := World.var?_cell gStx hv1 0; simpa using h0, .inr ⟨_, _, rfl⟩⟩
  · obtain ⟨a1, s1, hv1, -, -, -⟩ := laid_sentinel h4 gRng (ti := 49) (by kernel_rfl) Tryd.underlying49 rowErr Tryd.underlying104 Tryd.underlying106 rfl rfl Tryd.underlying9 cErr cStr
    exact ⟨_, by have h0 := World.var?_cell gRng hv1 0; simpa using h0, .inr ⟨_, _, rfl⟩⟩
end Go.Proofs.YthoiepkejhhcoaaDoor.P
