/- The block of 64 bytes 0, rolled on from the beginning, by evaluation. -/
import Derived.Test.YtkejacgedipoeaaDLive
import Derived.Test.YtkejacgedipoeaaPx34
import Derived.Test.YtkejacgedipoeaaPx36
namespace Go.Proofs.Ytkejacgedipoeaa.P
open Go.RowKit Go.Proofs.YtkejacgedipoeaaW.PrintWords Go.Proofs.YtkejacgedipoeaaW.PrintLast Go.Proofs.YtkejacgedipoeaaW.PrintMore Go.Proofs.Ytkejacgedipoeaa.Pl
set_option maxRecDepth 1000000
def startB : ByteArray := strOfNums (bytesTo startV.list 8)
theorem bytes_start : armadaref12_Bytes.f 400 startV.list = some startB := by decide +kernel
theorem hlist_is : armadaref12_H.f = some startV.list := rfl
theorem klist_is : armadaref12_K.f = some kList := rfl
theorem block_sizes : startB.size = 32 ∧ (strOfNums (List.replicate 64 0)).size = 64 := by decide +kernel
theorem block_zero : armadaref12_Block.f 400 startB (strOfNums (List.replicate 64 0)) = digest_Block.f startB (strOfNums (List.replicate 64 0)) := by decide +kernel
theorem zero_some : ∃ x, digest_Block.f startB (strOfNums (List.replicate 64 0)) = some (x, true) := by
  unfold digest_Block.f
  rw [if_pos block_sizes]
  exact ⟨_, rfl⟩
theorem rd_nat (l : List Int) (i : Nat) : rd l (i : Int) = l.getD i 0 := by unfold rd; rfl
end Go.Proofs.Ytkejacgedipoeaa.P
