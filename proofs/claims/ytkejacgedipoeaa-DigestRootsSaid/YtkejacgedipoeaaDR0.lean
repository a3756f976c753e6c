/- Roots of primes, by evaluation. -/
import Derived.Test.YtkejacgedipoeaaPxR
namespace Go.Proofs.Ytkejacgedipoeaa.P
set_option maxRecDepth 1000000
theorem root3_0 : armadaref12_Root.f 400 0 3 = some 1116352408 := by decide +kernel
theorem root3_1 : armadaref12_Root.f 400 1 3 = some 1899447441 := by decide +kernel
theorem root3_2 : armadaref12_Root.f 400 2 3 = some 3049323471 := by decide +kernel
theorem root3_3 : armadaref12_Root.f 400 3 3 = some 3921009573 := by decide +kernel
theorem root3_4 : armadaref12_Root.f 400 4 3 = some 961987163 := by decide +kernel
theorem root3_5 : armadaref12_Root.f 400 5 3 = some 1508970993 := by decide +kernel
theorem root3_6 : armadaref12_Root.f 400 6 3 = some 2453635748 := by decide +kernel
theorem root3_7 : armadaref12_Root.f 400 7 3 = some 2870763221 := by decide +kernel
theorem root3_8 : armadaref12_Root.f 400 8 3 = some 3624381080 := by decide +kernel
theorem root3_9 : armadaref12_Root.f 400 9 3 = some 310598401 := by decide +kernel
theorem root3_10 : armadaref12_Root.f 400 10 3 = some 607225278 := by decide +kernel
theorem root3_11 : armadaref12_Root.f 400 11 3 = some 1426881987 := by decide +kernel
theorem root3_12 : armadaref12_Root.f 400 12 3 = some 1925078388 := by decide +kernel
theorem root3_13 : armadaref12_Root.f 400 13 3 = some 2162078206 := by decide +kernel
theorem root3_14 : armadaref12_Root.f 400 14 3 = some 2614888103 := by decide +kernel
theorem root3_15 : armadaref12_Root.f 400 15 3 = some 3248222580 := by decide +kernel
end Go.Proofs.Ytkejacgedipoeaa.P
