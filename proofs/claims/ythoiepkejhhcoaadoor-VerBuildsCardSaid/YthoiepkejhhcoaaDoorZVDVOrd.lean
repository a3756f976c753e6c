/- ver: the order of versions: it is one order. No program in sight. -/
import Derived.Test.YthoiepkejhhcoaaDoorZVDVPre
set_option linter.unusedVariables false
set_option linter.unusedSimpArgs false
namespace Go.Proofs.YthoiepkejhhcoaaDoor.P
open Go.RowKit Go.Proofs.YthoiepkejhhcoaaDoorW.PrintWords Go.Proofs.YthoiepkejhhcoaaDoorW.PrintLast Go.Proofs.YthoiepkejhhcoaaDoorW.PrintMore
/-- A comparison that is an order, with things that compare the same. -/
structure Tot {α : Type} (c : α → α → Int) : Prop where
  rng : ∀ x y, c x y = -1 ∨ c x y = 0 ∨ c x y = 1
  neg : ∀ x y, c y x = - c x y
  tr : ∀ x y z, c x y ≤ 0 → c y z ≤ 0 → c x z ≤ 0
namespace Tot
variable {α β : Type} {c : α → α → Int} {d : β → β → Int}
theorem self (h : Tot c) (x : α) : c x x = 0 := by have := h.neg x x; omega
end Tot
theorem tot_int : Tot cmpI := by
  refine ⟨fun x y => ?_, fun x y => ?_, fun x y z => ?_⟩ <;> unfold cmpI
  · by_cases a : x < y
    · rw [if_pos a]; exact .inl rfl
    · rw [if_neg a]
      by_cases b : x > y
      · rw [if_pos b]; exact .inr (.inr rfl)
      · rw [if_neg b]; exact .inr (.inl rfl)
  · by_cases a : x < y
    · rw [if_pos a, if_neg (by omega), if_pos (by omega)]; rfl
    · by_cases b : y < x
      · rw [if_pos b, if_neg a, if_pos (by omega)]
      · rw [if_neg b, if_neg (by omega), if_neg a, if_neg (by omega)]; rfl
  · intro h1 h2
    have a : ¬ x > y := by
      intro g
      rw [if_neg (by omega), if_pos g] at h1; omega
    have b : ¬ y > z := by
      intro g
      rw [if_neg (by omega), if_pos g] at h2; omega
    by_cases e : x < z
    · rw [if_pos e]; omega
    · rw [if_neg e, if_neg (by omega)]; omega
theorem toList_eq (a b : ByteArray) : a.toList = b.toList ↔ a = b := by
  constructor
  · intro h; rw [ByteArray.toList_eq, ByteArray.toList_eq] at h; exact tl_inj h
  · intro h; rw [h]
structure Vr where
  a : Int
  b : Int
  c : Int
  p : ByteArray
  q : ByteArray
def Vr.ok (v : Vr) : Bool := checkB v.a v.b v.c v.p v.q
/-- The order, of versions that may be. -/
def ordV (x y : Vr) : Int := if cmpI x.a y.a = 0 then (if cmpI x.b y.b = 0 then (if cmpI x.c y.c = 0 then preZ x.p y.p else cmpI x.c y.c) else cmpI x.b y.b) else cmpI x.a y.a
def compareZ (x y : Vr) : Int := if x.ok = true then (if y.ok = true then ordV x y else 0) else 0
end Go.Proofs.YthoiepkejhhcoaaDoor.P
