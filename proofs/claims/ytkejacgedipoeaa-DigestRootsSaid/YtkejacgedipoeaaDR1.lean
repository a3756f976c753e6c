/- Roots of primes, by evaluation. -/
import Derived.Test.YtkejacgedipoeaaPxR
namespace Go.Proofs.Ytkejacgedipoeaa.P
set_option maxRecDepth 1000000
theorem root3_16 : armadaref12_Root.f 400 16 3 = some 3835390401 := by decide +kernel
theorem root3_17 : armadaref12_Root.f 400 17 3 = some 4022224774 := by decide +kernel
theorem root3_18 : armadaref12_Root.f 400 18 3 = some 264347078 := by decide +kernel
theorem root3_19 : armadaref12_Root.f 400 19 3 = some 604807628 := by decide +kernel
theorem root3_20 : armadaref12_Root.f 400 20 3 = some 770255983 := by decide +kernel
theorem root3_21 : armadaref12_Root.f 400 21 3 = some 1249150122 := by decide +kernel
theorem root3_22 : armadaref12_Root.f 400 22 3 = some 1555081692 := by decide +kernel
theorem root3_23 : armadaref12_Root.f 400 23 3 = some 1996064986 := by decide +kernel
theorem root3_24 : armadaref12_Root.f 400 24 3 = some 2554220882 := by decide +kernel
theorem root3_25 : armadaref12_Root.f 400 25 3 = some 2821834349 := by decide +kernel
theorem root3_26 : armadaref12_Root.f 400 26 3 = some 2952996808 := by decide +kernel
theorem root3_27 : armadaref12_Root.f 400 27 3 = some 3210313671 := by decide +kernel
theorem root3_28 : armadaref12_Root.f 400 28 3 = some 3336571891 := by decide +kernel
theorem root3_29 : armadaref12_Root.f 400 29 3 = some 3584528711 := by decide +kernel
theorem root3_30 : armadaref12_Root.f 400 30 3 = some 113926993 := by decide +kernel
theorem root3_31 : armadaref12_Root.f 400 31 3 = some 338241895 := by decide +kernel
end Go.Proofs.Ytkejacgedipoeaa.P
