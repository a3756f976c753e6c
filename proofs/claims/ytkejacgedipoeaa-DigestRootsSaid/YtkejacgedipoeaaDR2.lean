/- Roots of primes, by evaluation. -/
import Derived.Test.YtkejacgedipoeaaPxR
namespace Go.Proofs.Ytkejacgedipoeaa.P
set_option maxRecDepth 1000000
theorem root3_32 : armadaref12_Root.f 400 32 3 = some 666307205 := by decide +kernel
theorem root3_33 : armadaref12_Root.f 400 33 3 = some 773529912 := by decide +kernel
theorem root3_34 : armadaref12_Root.f 400 34 3 = some 1294757372 := by decide +kernel
theorem root3_35 : armadaref12_Root.f 400 35 3 = some 1396182291 := by decide +kernel
theorem root3_36 : armadaref12_Root.f 400 36 3 = some 1695183700 := by decide +kernel
theorem root3_37 : armadaref12_Root.f 400 37 3 = some 1986661051 := by decide +kernel
theorem root3_38 : armadaref12_Root.f 400 38 3 = some 2177026350 := by decide +kernel
theorem root3_39 : armadaref12_Root.f 400 39 3 = some 2456956037 := by decide +kernel
theorem root3_40 : armadaref12_Root.f 400 40 3 = some 2730485921 := by decide +kernel
theorem root3_41 : armadaref12_Root.f 400 41 3 = some 2820302411 := by decide +kernel
theorem root3_42 : armadaref12_Root.f 400 42 3 = some 3259730800 := by decide +kernel
theorem root3_43 : armadaref12_Root.f 400 43 3 = some 3345764771 := by decide +kernel
theorem root3_44 : armadaref12_Root.f 400 44 3 = some 3516065817 := by decide +kernel
theorem root3_45 : armadaref12_Root.f 400 45 3 = some 3600352804 := by decide +kernel
theorem root3_46 : armadaref12_Root.f 400 46 3 = some 4094571909 := by decide +kernel
theorem root3_47 : armadaref12_Root.f 400 47 3 = some 275423344 := by decide +kernel
end Go.Proofs.Ytkejacgedipoeaa.P
