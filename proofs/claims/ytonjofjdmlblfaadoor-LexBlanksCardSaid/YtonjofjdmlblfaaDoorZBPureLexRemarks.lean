/- LexRemarks: a remark behind a line that has none leaves its words as they are. -/
import Derived.Test.YtonjofjdmlblfaaDoorZBM3
import Derived.Test.YtonjofjdmlblfaaDoorZBXTells
set_option linter.unusedVariables false
set_option linter.unusedSimpArgs false
namespace Go.Proofs.YtonjofjdmlblfaaDoor.Pure
open Go.RowKit Go.Proofs.YtonjofjdmlblfaaDoor.P Go.Proofs.YtonjofjdmlblfaaDoorW.PrintWords Go.Proofs.YtonjofjdmlblfaaDoorW.PrintLast Go.Proofs.YtonjofjdmlblfaaDoorW.PrintMore
theorem bt_left (a b : ByteArray) (i : Nat) (h : i < a.size) : bt (a ++ b) (i : Int) = bt a (i : Int) := by
  rw [bt_nat _ i (by rw [ByteArray.size_append]; omega), bt_nat a i h, ByteArray.getElem_append_left h]
theorem bt_right (a b : ByteArray) (i : Nat) (h : i < b.size) : bt (a ++ b) ((a.size + i : Nat) : Int) = bt b (i : Int) := by
  rw [bt_nat _ (a.size + i) (by rw [ByteArray.size_append]; omega), bt_nat b i h, ByteArray.getElem_append_right (by omega)]
  congr 3
  omega
theorem tl_inj {a b : ByteArray} (h : a.data.toList = b.data.toList) : a = b := by
  obtain ⟨⟨a⟩⟩ := a
  obtain ⟨⟨b⟩⟩ := b
  simp at h; rw [h]
theorem scan_succ (s : ByteArray) (n i : Nat) (ws : List S47) (f : Int) : scan s (n + 1) i ws f = if f < 0 ∧ isNote s i = true then (ws, s.extract i s.size) else scan s n (i + 1) (P.next s i ws f).1 (P.next s i ws f).2 := rfl
end Go.Proofs.YtonjofjdmlblfaaDoor.Pure
