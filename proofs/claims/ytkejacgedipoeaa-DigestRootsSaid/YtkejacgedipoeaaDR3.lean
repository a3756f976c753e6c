/- Roots of primes, by evaluation. -/
import Derived.Test.YtkejacgedipoeaaPxR
namespace Go.Proofs.Ytkejacgedipoeaa.P
set_option maxRecDepth 1000000
theorem root3_48 : armadaref12_Root.f 400 48 3 = some 430227734 := by decide +kernel
theorem root3_49 : armadaref12_Root.f 400 49 3 = some 506948616 := by decide +kernel
theorem root3_50 : armadaref12_Root.f 400 50 3 = some 659060556 := by decide +kernel
theorem root3_51 : armadaref12_Root.f 400 51 3 = some 883997877 := by decide +kernel
theorem root3_52 : armadaref12_Root.f 400 52 3 = some 958139571 := by decide +kernel
theorem root3_53 : armadaref12_Root.f 400 53 3 = some 1322822218 := by decide +kernel
theorem root3_54 : armadaref12_Root.f 400 54 3 = some 1537002063 := by decide +kernel
theorem root3_55 : armadaref12_Root.f 400 55 3 = some 1747873779 := by decide +kernel
theorem root3_56 : armadaref12_Root.f 400 56 3 = some 1955562222 := by decide +kernel
theorem root3_57 : armadaref12_Root.f 400 57 3 = some 2024104815 := by decide +kernel
theorem root3_58 : armadaref12_Root.f 400 58 3 = some 2227730452 := by decide +kernel
theorem root3_59 : armadaref12_Root.f 400 59 3 = some 2361852424 := by decide +kernel
theorem root3_60 : armadaref12_Root.f 400 60 3 = some 2428436474 := by decide +kernel
theorem root3_61 : armadaref12_Root.f 400 61 3 = some 2756734187 := by decide +kernel
theorem root3_62 : armadaref12_Root.f 400 62 3 = some 3204031479 := by decide +kernel
theorem root3_63 : armadaref12_Root.f 400 63 3 = some 3329325298 := by decide +kernel
end Go.Proofs.Ytkejacgedipoeaa.P
