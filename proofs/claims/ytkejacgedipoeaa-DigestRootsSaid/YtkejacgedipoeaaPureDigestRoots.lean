/- The roots by which bytes are rolled are those of the primes, and the block of 64 bytes 0 comes to what they tell: for the numbers 0 to 63. -/
import Derived.Test.YtkejacgedipoeaaPx50
import Derived.Test.YtkejacgedipoeaaDRb
import Derived.Test.YtkejacgedipoeaaDR0
import Derived.Test.YtkejacgedipoeaaDR1
import Derived.Test.YtkejacgedipoeaaDR2
import Derived.Test.YtkejacgedipoeaaDR3
import Derived.Test.YtkejacgedipoeaaDR4
namespace Go.Proofs.Ytkejacgedipoeaa.Pure
open Go.RowKit Go.Proofs.Ytkejacgedipoeaa.P Go.Proofs.YtkejacgedipoeaaW.PrintWords Go.Proofs.YtkejacgedipoeaaW.PrintLast Go.Proofs.Ytkejacgedipoeaa.Pl
theorem root3 (i : Nat) (h : i < 64) : armadaref12_Root.f 400 (i : Int) 3 = some (kList.getD i 0) := match i, h with
  | 0, _ => root3_0
  | 1, _ => root3_1
  | 2, _ => root3_2
  | 3, _ => root3_3
  | 4, _ => root3_4
  | 5, _ => root3_5
  | 6, _ => root3_6
  | 7, _ => root3_7
  | 8, _ => root3_8
  | 9, _ => root3_9
  | 10, _ => root3_10
  | 11, _ => root3_11
  | 12, _ => root3_12
  | 13, _ => root3_13
  | 14, _ => root3_14
  | 15, _ => root3_15
  | 16, _ => root3_16
  | 17, _ => root3_17
  | 18, _ => root3_18
  | 19, _ => root3_19
  | 20, _ => root3_20
  | 21, _ => root3_21
  | 22, _ => root3_22
  | 23, _ => root3_23
  | 24, _ => root3_24
  | 25, _ => root3_25
  | 26, _ => root3_26
  | 27, _ => root3_27
  | 28, _ => root3_28
  | 29, _ => root3_29
  | 30, _ => root3_30
  | 31, _ => root3_31
  | 32, _ => root3_32
  | 33, _ => root3_33
  | 34, _ => root3_34
  | 35, _ => root3_35
  | 36, _ => root3_36
  | 37, _ => root3_37
  | 38, _ => root3_38
  | 39, _ => root3_39
  | 40, _ => root3_40
  | 41, _ => root3_41
  | 42, _ => root3_42
  | 43, _ => root3_43
  | 44, _ => root3_44
  | 45, _ => root3_45
  | 46, _ => root3_46
  | 47, _ => root3_47
  | 48, _ => root3_48
  | 49, _ => root3_49
  | 50, _ => root3_50
  | 51, _ => root3_51
  | 52, _ => root3_52
  | 53, _ => root3_53
  | 54, _ => root3_54
  | 55, _ => root3_55
  | 56, _ => root3_56
  | 57, _ => root3_57
  | 58, _ => root3_58
  | 59, _ => root3_59
  | 60, _ => root3_60
  | 61, _ => root3_61
  | 62, _ => root3_62
  | 63, _ => root3_63
  | n + 64, h => absurd h (by omega)
theorem root2 (i : Nat) (h : i < 8) : armadaref12_Root.f 400 (i : Int) 2 = some (startV.list.getD i 0) := match i, h with
  | 0, _ => root2_0
  | 1, _ => root2_1
  | 2, _ => root2_2
  | 3, _ => root2_3
  | 4, _ => root2_4
  | 5, _ => root2_5
  | 6, _ => root2_6
  | 7, _ => root2_7
  | n + 8, h => absurd h (by omega)
theorem DigestRoots : armadalaw12_DigestRoots.Pure := by
  intro a ha
  refine ⟨401, ?_⟩
  have hL := live_bind
  unfold armadalaw12_DigestRoots.f
  by_cases h0 : a < 0
  · rw [if_pos h0, armadalaw12_DigestRoots.j0, if_pos rfl]
    exact hL
  · rw [if_neg h0]
    by_cases h1 : a > 63
    · rw [show decide (a > 63) = true from decide_eq_true h1, armadalaw12_DigestRoots.j0, if_pos rfl]
      exact hL
    · rw [show decide (a > 63) = false from decide_eq_false h1, armadalaw12_DigestRoots.j0, if_neg (by decide), if_pos (by decide), Option.bind_some]
      obtain ⟨i, rfl⟩ : ∃ i : Nat, a = (i : Int) := ⟨a.toNat, by omega⟩
      have hi : i < 64 := by omega
      have hi8 : i % 8 < 8 := by omega
      obtain ⟨x, hx⟩ := zero_some
      have hz := block_zero
      rw [hx] at hz
      have c1 : (i : Int) < (kList.length : Int) := by rw [klen]; omega
      have t8 : Int.tmod (i : Int) 8 = ((i % 8 : Nat) : Int) := by rw [tmod_pos (by omega)]; omega
      have c2 : ((i % 8 : Nat) : Int) < (startV.list.length : Int) := by show ((i % 8 : Nat) : Int) < 8; omega
      rw [hlist_is, Option.bind_some, bytes_start, Option.bind_some, hx, Option.bind_some, Option.bind_some, bytes_start, Option.bind_some, hz, Option.bind_some, klist_is, Option.bind_some]
      rw [if_pos (Int.natCast_nonneg _), if_pos c1, root3 i hi, Option.bind_some, if_pos (rd_nat kList i), Option.bind_some, t8, if_pos (Int.natCast_nonneg _), if_pos c2, root2 (i % 8) hi8, Option.bind_some, if_pos (rd_nat startV.list (i % 8)), if_pos rfl, if_pos rfl, if_pos rfl]
      exact hL
end Go.Proofs.Ytkejacgedipoeaa.Pure
