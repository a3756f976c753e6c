/- Square roots of primes, by evaluation. -/
import Derived.Test.YtkejacgedipoeaaPxR
namespace Go.Proofs.Ytkejacgedipoeaa.P
set_option maxRecDepth 1000000
theorem root2_0 : armadaref12_Root.f 400 0 2 = some 1779033703 := by decide +kernel
theorem root2_1 : armadaref12_Root.f 400 1 2 = some 3144134277 := by decide +kernel
theorem root2_2 : armadaref12_Root.f 400 2 2 = some 1013904242 := by decide +kernel
theorem root2_3 : armadaref12_Root.f 400 3 2 = some 2773480762 := by decide +kernel
theorem root2_4 : armadaref12_Root.f 400 4 2 = some 1359893119 := by decide +kernel
theorem root2_5 : armadaref12_Root.f 400 5 2 = some 2600822924 := by decide +kernel
theorem root2_6 : armadaref12_Root.f 400 6 2 = some 528734635 := by decide +kernel
theorem root2_7 : armadaref12_Root.f 400 7 2 = some 1541459225 := by decide +kernel
end Go.Proofs.Ytkejacgedipoeaa.P
