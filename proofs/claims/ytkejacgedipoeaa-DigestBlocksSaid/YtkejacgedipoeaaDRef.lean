/- The document's answer, by definition, is what the program's words come to: plain arithmetic of words of 32 bits. -/
import Derived.Test.YtkejacgedipoeaaDLive
import Derived.Test.YtkejacgedipoeaaPx34
import Derived.Test.YtkejacgedipoeaaPx35
import Derived.Test.YtkejacgedipoeaaPx37
import Derived.Test.YtkejacgedipoeaaPx38
import Derived.Laws.BitsLemmas
namespace Go.Proofs.Ytkejacgedipoeaa.P
open Go.RowKit Go.Proofs.YtkejacgedipoeaaW.PrintWords Go.Proofs.YtkejacgedipoeaaW.PrintLast Go.Proofs.YtkejacgedipoeaaW.PrintMore Go.Proofs.Ytkejacgedipoeaa.Pl

/-- A word. -/
def Wd (x : Int) : Prop := 0 ≤ x ∧ x < 4294967296
theorem Wd.nat {x : Int} (h : Wd x) : ∃ n : Nat, x = n ∧ n < 2 ^ 32 := ⟨x.toNat, by have := h.1; omega, by have := h.1; have := h.2; omega⟩
theorem wrap_u32w (n : Int) : IntKind.u32.wrap n = n % 4294967296 := IntKind.wrap_u32 n
theorem bits_u32_wd (op : BinOp) (a b : Int) : Wd (Go.bits op .u32 a b) ∨ True := Or.inr trivial
theorem xor_nat (k : IntKind) (h32 : 32 ≤ k.bits) (hk : ∀ n : Int, 0 ≤ n → n < 2 ^ 32 → k.wrap n = n) (a b : Nat) (ha : a < 2 ^ 32) (hb : b < 2 ^ 32) : Go.bits .xor k a b = ((a ^^^ b : Nat) : Int) := by
  have hp : 2 ^ 32 ≤ 2 ^ k.bits := Nat.pow_le_pow_right (by decide) h32
  have ha' : a % 2 ^ k.bits = a := Nat.mod_eq_of_lt (Nat.lt_of_lt_of_le ha hp)
  have hb' : b % 2 ^ k.bits = b := Nat.mod_eq_of_lt (Nat.lt_of_lt_of_le hb hp)
  have cast : ∀ n : Nat, n < 2 ^ 32 → ((n : Nat) : Int) < 2 ^ 32 := fun n h => by exact_mod_cast h
  simp only [Go.bits, BitVec.ofInt_natCast, BitVec.toNat_xor, BitVec.toNat_ofNat, ha', hb']
  exact hk _ (Int.natCast_nonneg _) (cast _ (Nat.xor_lt_two_pow ha hb))
theorem k32 : ∀ n : Int, 0 ≤ n → n < 2 ^ 32 → IntKind.u32.wrap n = n := fun n h0 h1 => by rw [IntKind.wrap_u32]; omega
theorem k64 : ∀ n : Int, 0 ≤ n → n < 2 ^ 32 → IntKind.i64.wrap n = n := fun n h0 h1 => by rw [IntKind.wrap_i64]; omega
theorem xor_same {a b : Int} (ha : Wd a) (hb : Wd b) : Go.bits .xor .i64 a b = Go.bits .xor .u32 a b ∧ Wd (Go.bits .xor .u32 a b) := by
  obtain ⟨x, rfl, hx⟩ := ha.nat
  obtain ⟨y, rfl, hy⟩ := hb.nat
  rw [xor_nat .i64 (by decide) k64 x y hx hy, xor_nat .u32 (by decide) k32 x y hx hy]
  have := Nat.xor_lt_two_pow hx hy
  exact ⟨rfl, by unfold Wd; omega⟩
theorem and_same {a b : Int} (ha : Wd a) (hb : Wd b) : Go.bits .and .i64 a b = Go.bits .and .u32 a b ∧ Wd (Go.bits .and .u32 a b) := by
  obtain ⟨x, rfl, hx⟩ := ha.nat
  obtain ⟨y, rfl, hy⟩ := hb.nat
  rw [(bits_nat .i64 32 (by decide) k64 x y hx hy).1, (bits_nat .u32 32 (by decide) k32 x y hx hy).1]
  have := Nat.and_lt_two_pow x hy
  exact ⟨rfl, by unfold Wd; omega⟩
theorem or_same {a b : Int} (ha : Wd a) (hb : Wd b) : Go.bits .or .i64 a b = Go.bits .or .u32 a b ∧ Wd (Go.bits .or .u32 a b) := by
  obtain ⟨x, rfl, hx⟩ := ha.nat
  obtain ⟨y, rfl, hy⟩ := hb.nat
  rw [(bits_nat .i64 32 (by decide) k64 x y hx hy).2, (bits_nat .u32 32 (by decide) k32 x y hx hy).2]
  have := Nat.or_lt_two_pow hx hy
  exact ⟨rfl, by unfold Wd; omega⟩
theorem not_same {e : Int} (he : Wd e) : Go.bits .xor .u32 IntKind.u32.max e = 4294967295 - e := by
  obtain ⟨x, rfl, hx⟩ := he.nat
  have h := xor_nat .u32 (by decide) k32 4294967295 x (by decide) hx
  rw [show IntKind.u32.max = ((4294967295 : Nat) : Int) from rfl, h]
  have h2 : (4294967295 : Nat) ^^^ x = 4294967295 - x := by
    have := congrArg BitVec.toNat (BitVec.allOnes_xor (x := BitVec.ofNat 32 x))
    rw [BitVec.toNat_xor, BitVec.toNat_not, BitVec.toNat_ofNat, Nat.mod_eq_of_lt hx] at this
    exact this
  rw [h2]; omega
theorem mask_is (x : Int) (h0 : 0 ≤ x) (h1 : x < 9223372036854775808) : armadaref12_mask.f x = some (x % 4294967296) := by
  unfold armadaref12_mask.f
  have := bits_mask .i64 63 (by decide) (fun n h0 h1 => by rw [IntKind.wrap_i64]; omega) 32 (by decide) x h0 h1
  rw [show ((2 : Int) ^ 32 - 1) = 4294967295 from rfl, show ((2 : Int) ^ 32) = 4294967296 from rfl] at this
  rw [this]
theorem Wd.mod (x : Int) : Wd (x % 4294967296) := by unfold Wd; omega
theorem tU_is {x : Int} (hx : Wd x) (n : Nat) (h1 : 2 ≤ n) (h2 : n ≤ 31) : armadaref12_turn.f x n = some (tU x n) ∧ Wd (tU x n) := by
  have hw : wrap64 (32 - (n : Int)) = 32 - n := by unfold wrap64; omega
  have e1 : ((32 : Int) - n).toNat = 32 - n := by omega
  have e2 : min (32 - n) 64 = 32 - n := by omega
  have e3 : min (32 - n) 32 = 32 - n := by omega
  have e4 : min n 64 = n := by omega
  have e5 : min n 32 = n := by omega
  have hp : (2 : Int) ^ (32 - n) ≤ 2 ^ 30 := by
    have : (2 : Nat) ^ (32 - n) ≤ 2 ^ 30 := Nat.pow_le_pow_right (by decide) (by omega)
    exact_mod_cast this
  have hp0 : (0 : Int) < 2 ^ (32 - n) := Int.pow_pos (by decide)
  obtain ⟨hx0, hx1⟩ := hx
  have hm0 : 0 ≤ x * 2 ^ (32 - n) := Int.mul_nonneg hx0 (Int.le_of_lt hp0)
  have hm1 : x * 2 ^ (32 - n) < 9223372036854775808 := by
    have := Int.mul_le_mul (show x ≤ 4294967295 by omega) hp (Int.le_of_lt hp0) (by decide)
    have e : (4294967295 : Int) * 2 ^ 30 = 4611686017353646080 := by decide
    omega
  have hs : shl .i64 x (32 - n) = x * 2 ^ (32 - n) := by
    unfold shl
    rw [e1, show IntKind.i64.bits = 64 from rfl, e2, IntKind.wrap_i64]
    omega
  have hs2 : shl .u32 x (32 - n) = x * 2 ^ (32 - n) % 4294967296 := by
    unfold shl
    rw [e1, show IntKind.u32.bits = 32 from rfl, e3, IntKind.wrap_u32]
  have hr : shr .i64 x n = shr .u32 x n := by
    unfold shr
    rw [show IntKind.i64.bits = 64 from rfl, show IntKind.u32.bits = 32 from rfl, Int.toNat_natCast, e4, e5]
  have hr2 : Wd (shr .u32 x n) := by
    unfold shr
    have hq : (0 : Int) < 2 ^ min (n : Int).toNat IntKind.u32.bits := Int.pow_pos (by decide)
    exact ⟨Int.ediv_nonneg hx0 (Int.le_of_lt hq), Int.lt_of_le_of_lt (Int.ediv_le_self _ hx0) hx1⟩
  have ho := or_same hr2 (Wd.mod (x * 2 ^ (32 - n)))
  constructor
  · unfold armadaref12_turn.f
    rw [if_pos (by omega), hw, if_pos (by omega), hs, mask_is _ hm0 hm1, Option.bind_some, hr, ho.1]
    unfold tU
    rw [hs2]
  · unfold tU
    rw [hs2]; exact ho.2
end Go.Proofs.Ytkejacgedipoeaa.P
