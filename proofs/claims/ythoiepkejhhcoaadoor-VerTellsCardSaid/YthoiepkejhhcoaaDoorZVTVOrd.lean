/- ver: the order of versions: it is one order. No program in sight. -/
import Derived.Test.YthoiepkejhhcoaaDoorZVTVPre
set_option linter.unusedVariables false
set_option linter.unusedSimpArgs false
namespace Go.Proofs.YthoiepkejhhcoaaDoor.P
open Go.RowKit Go.Proofs.YthoiepkejhhcoaaDoorW.PrintWords Go.Proofs.YthoiepkejhhcoaaDoorW.PrintLast Go.Proofs.YthoiepkejhhcoaaDoorW.PrintMore
/-- A comparison that is an order, with things that compare the same. -/
structure Tot {α : Type} (c : α → α → Int) : Prop where
  rng : ∀ x y, c x y = -1 ∨ c x y = 0 ∨ c x y = 1
  neg : ∀ x y, c y x = - c x y
  tr : ∀ x y z, c x y ≤ 0 → c y z ≤ 0 → c x z ≤ 0
namespace Tot
variable {α β : Type} {c : α → α → Int} {d : β → β → Int}
end Tot
def joinc (c : UInt8) : List ByteArray → ByteArray
  | [] => ⟨#[]⟩
  | [x] => x
  | x :: y :: l => x ++ (⟨#[c]⟩ ++ joinc c (y :: l))
theorem sp_ne (c : Int) (s : ByteArray) (n fr i : Nat) : ∃ y l, sp c s n fr i = y :: l := by
  induction n generalizing fr i with
  | zero => exact ⟨_, _, rfl⟩
  | succ n ih =>
    rw [sp]
    split
    · exact ⟨_, _, rfl⟩
    · exact ih _ _
theorem ext_join (s : ByteArray) (a b c : Nat) (h1 : a ≤ b) (h2 : b ≤ c) (h3 : c ≤ s.size) : s.extract a b ++ s.extract b c = s.extract a c := by
  apply tl_inj
  rw [ByteArray.data_append, Array.toList_append, ByteArray.data_extract, ByteArray.data_extract, ByteArray.data_extract, Array.toList_extract, Array.toList_extract, Array.toList_extract, List.extract_eq_take_drop, List.extract_eq_take_drop, List.extract_eq_take_drop]
  have e : s.data.toList.drop b = (s.data.toList.drop a).drop (b - a) := by rw [List.drop_drop]; congr 1; omega
  rw [e, show c - a = (b - a) + (c - b) by omega, List.take_add]
theorem ext_byte (s : ByteArray) (i : Nat) (c : UInt8) (h : i < s.size) (hb : bt s (i : Int) = (c.toNat : Int)) : s.extract i (i + 1) = ⟨#[c]⟩ := by
  apply tl_inj
  have hz : s.data.toList.length = s.size := by rw [Array.length_toList]; rfl
  rw [ByteArray.data_extract, Array.toList_extract, List.extract_eq_take_drop, List.drop_eq_getElem_cons (by omega), show i + 1 - i = 1 by omega, List.take_succ_cons, List.take_zero]
  have := (bt_get c s i h).1 hb
  rw [List.getElem?_eq_getElem (by omega)] at this
  rw [Option.some.inj this]
theorem join_sp (c : UInt8) (s : ByteArray) : ∀ (n fr i : Nat), n + i = s.size → fr ≤ i → joinc c (sp (c.toNat : Int) s n fr i) = s.extract fr s.size
  | 0, fr, i, hn, hf => rfl
  | n + 1, fr, i, hn, hf => by
    rw [sp]
    by_cases e : bt s (i : Int) = (c.toNat : Int)
    · rw [if_pos e]
      have ih := join_sp c s n (i + 1) (i + 1) (by omega) (Nat.le_refl _)
      obtain ⟨y, l, hy⟩ := sp_ne (c.toNat : Int) s n (i + 1) (i + 1)
      rw [hy] at ih ⊢
      rw [joinc, ih, ← ext_byte s i c (by omega) e, ext_join s i (i + 1) s.size (by omega) (by omega) (Nat.le_refl _), ext_join s fr i s.size hf (by omega) (Nat.le_refl _)]
    · rw [if_neg e]; exact join_sp c s n fr (i + 1) (by omega) (by omega)
theorem toList_eq (a b : ByteArray) : a.toList = b.toList ↔ a = b := by
  constructor
  · intro h; rw [ByteArray.toList_eq, ByteArray.toList_eq] at h; exact tl_inj h
  · intro h; rw [h]
structure Vr where
  a : Int
  b : Int
  c : Int
  p : ByteArray
  q : ByteArray
def Vr.ok (v : Vr) : Bool := checkB v.a v.b v.c v.p v.q
end Go.Proofs.YthoiepkejhhcoaaDoor.P
