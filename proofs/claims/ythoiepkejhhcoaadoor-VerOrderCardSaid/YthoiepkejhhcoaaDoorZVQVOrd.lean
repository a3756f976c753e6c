/- ver: the order of versions: it is one order. No program in sight. -/
import Derived.Test.YthoiepkejhhcoaaDoorZVQVPre
set_option linter.unusedVariables false
set_option linter.unusedSimpArgs false
namespace Go.Proofs.YthoiepkejhhcoaaDoor.P
open Go.RowKit Go.Proofs.YthoiepkejhhcoaaDoorW.PrintWords Go.Proofs.YthoiepkejhhcoaaDoorW.PrintLast Go.Proofs.YthoiepkejhhcoaaDoorW.PrintMore
/-- A comparison that is an order, with things that compare the same. -/
structure Tot {α : Type} (c : α → α → Int) : Prop where
  rng : ∀ x y, c x y = -1 ∨ c x y = 0 ∨ c x y = 1
  neg : ∀ x y, c y x = - c x y
  tr : ∀ x y z, c x y ≤ 0 → c y z ≤ 0 → c x z ≤ 0
namespace Tot
variable {α β : Type} {c : α → α → Int} {d : β → β → Int}
theorem self (h : Tot c) (x : α) : c x x = 0 := by have := h.neg x x; omega
theorem eqv (h : Tot c) {x y : α} (e : c x y = 0) (z : α) : c x z = c y z := by
  have e' : c y x = 0 := by have := h.neg x y; omega
  have h1 := h.tr x y z (by omega)
  have h2 := h.tr y x z (by omega)
  have h3 : 0 ≤ c x z → 0 ≤ c y z := fun g => by
    have g1 := h.neg x z
    have g2 := h.neg y z
    have := h.tr z x y (by omega) (by omega)
    omega
  have h4 : 0 ≤ c y z → 0 ≤ c x z := fun g => by
    have g1 := h.neg x z
    have g2 := h.neg y z
    have := h.tr z y x (by omega) (by omega)
    omega
  rcases h.rng x z with a | a | a <;> rcases h.rng y z with b | b | b <;> omega
theorem lt_le (h : Tot c) {x y z : α} (h1 : c x y < 0) (h2 : c y z ≤ 0) : c x z < 0 := by
  have h3 := h.tr x y z (by omega) h2
  by_cases e : c x z = 0
  · have h4 := h.eqv e y
    have h5 := h.neg y z
    omega
  · omega
theorem pull (h : Tot c) (f : β → α) : Tot fun x y => c (f x) (f y) :=
  ⟨fun x y => h.rng _ _, fun x y => h.neg _ _, fun x y z => h.tr _ _ _⟩
theorem lex {c d : α → α → Int} (h : Tot c) (g : Tot d) : Tot fun x y => if c x y = 0 then d x y else c x y := by
  refine ⟨fun x y => ?_, fun x y => ?_, fun x y z h1 h2 => ?_⟩
  · show (if c x y = 0 then d x y else c x y) = -1 ∨ _ ∨ _
    by_cases e : c x y = 0
    · simp only [if_pos e]; exact g.rng x y
    · simp only [if_neg e]; exact h.rng x y
  · have hn := h.neg x y
    have gn := g.neg x y
    show (if c y x = 0 then d y x else c y x) = -(if c x y = 0 then d x y else c x y)
    by_cases e : c x y = 0
    · rw [if_pos e, if_pos (by omega)]; exact gn
    · rw [if_neg e, if_neg (by omega)]; exact hn
  · show (if c x z = 0 then d x z else c x z) ≤ 0
    have h1 : (if c x y = 0 then d x y else c x y) ≤ 0 := h1
    have h2 : (if c y z = 0 then d y z else c y z) ≤ 0 := h2
    by_cases e1 : c x y = 0
    · rw [if_pos e1] at h1
      have e3 := h.eqv e1 z
      by_cases e2 : c y z = 0
      · rw [if_pos e2] at h2
        rw [if_pos (by omega)]; exact g.tr x y z h1 h2
      · rw [if_neg e2] at h2
        rw [if_neg (by omega)]; omega
    · rw [if_neg e1] at h1
      have l1 : c x y < 0 := by omega
      by_cases e2 : c y z = 0
      · have := h.lt_le l1 (show c y z ≤ 0 by omega)
        rw [if_neg (by omega)]; omega
      · rw [if_neg e2] at h2
        have := h.lt_le l1 h2
        rw [if_neg (by omega)]; omega
end Tot
theorem tot_int : Tot cmpI := by
  refine ⟨fun x y => ?_, fun x y => ?_, fun x y z => ?_⟩ <;> unfold cmpI
  · by_cases a : x < y
    · rw [if_pos a]; exact .inl rfl
    · rw [if_neg a]
      by_cases b : x > y
      · rw [if_pos b]; exact .inr (.inr rfl)
      · rw [if_neg b]; exact .inr (.inl rfl)
  · by_cases a : x < y
    · rw [if_pos a, if_neg (by omega), if_pos (by omega)]; rfl
    · by_cases b : y < x
      · rw [if_pos b, if_neg a, if_pos (by omega)]
      · rw [if_neg b, if_neg (by omega), if_neg a, if_neg (by omega)]; rfl
  · intro h1 h2
    have a : ¬ x > y := by
      intro g
      rw [if_neg (by omega), if_pos g] at h1; omega
    have b : ¬ y > z := by
      intro g
      rw [if_neg (by omega), if_pos g] at h2; omega
    by_cases e : x < z
    · rw [if_pos e]; omega
    · rw [if_neg e, if_neg (by omega)]; omega
theorem cmpI_zero {x y : Int} : cmpI x y = 0 ↔ x = y := by
  unfold cmpI
  constructor
  · intro h
    by_cases a : x < y
    · rw [if_pos a] at h; omega
    · rw [if_neg a] at h
      by_cases b : x > y
      · rw [if_pos b] at h; omega
      · omega
  · intro h; rw [if_neg (by omega), if_neg (by omega)]
def lexL {α : Type} (c : α → α → Int) : List α → List α → Int
  | [], [] => 0
  | [], _ :: _ => -1
  | _ :: _, [] => 1
  | x :: xs, y :: ys => if c x y = 0 then lexL c xs ys else c x y
theorem tot_list {α : Type} {c : α → α → Int} (h : Tot c) : Tot (lexL c) := by
  refine ⟨fun x => ?_, fun x => ?_, fun x => ?_⟩
  · induction x with
    | nil => intro y; cases y with
      | nil => exact .inr (.inl rfl)
      | cons y ys => exact .inl rfl
    | cons x xs ih => intro y; cases y with
      | nil => exact .inr (.inr rfl)
      | cons y ys =>
        rw [lexL]
        by_cases e : c x y = 0
        · rw [if_pos e]; exact ih ys
        · rw [if_neg e]; exact h.rng x y
  · induction x with
    | nil => intro y; cases y with
      | nil => rfl
      | cons y ys => rfl
    | cons x xs ih => intro y; cases y with
      | nil => rfl
      | cons y ys =>
        have hn := h.neg x y
        rw [lexL, lexL]
        by_cases e : c x y = 0
        · rw [if_pos e, if_pos (by omega)]; exact ih ys
        · rw [if_neg e, if_neg (by omega)]; exact hn
  · induction x with
    | nil =>
      intro y z h1 h2
      cases z with
      | nil => exact Int.le_refl _
      | cons z zs => rw [lexL]; omega
    | cons x xs ih =>
      intro y z h1 h2
      cases y with
      | nil => rw [lexL] at h1; omega
      | cons y ys =>
        cases z with
        | nil => rw [lexL] at h2; omega
        | cons z zs =>
          rw [lexL] at h1 h2 ⊢
          by_cases e1 : c x y = 0
          · rw [if_pos e1] at h1
            have e3 := h.eqv e1 z
            by_cases e2 : c y z = 0
            · rw [if_pos e2] at h2
              rw [if_pos (by omega)]; exact ih ys zs h1 h2
            · rw [if_neg e2] at h2
              rw [if_neg (by omega)]; omega
          · rw [if_neg e1] at h1
            have l1 : c x y < 0 := by omega
            by_cases e2 : c y z = 0
            · have := h.lt_le l1 (show c y z ≤ 0 by omega)
              rw [if_neg (by omega)]; omega
            · rw [if_neg e2] at h2
              have := h.lt_le l1 h2
              rw [if_neg (by omega)]; omega
def byteI (b : UInt8) : Int := b.toNat
theorem compareBytes_lex : ∀ a b : List UInt8, Lib.compareBytes a b = lexL (fun x y => cmpI (byteI x) (byteI y)) a b
  | [], [] => rfl
  | [], _ :: _ => rfl
  | _ :: _, [] => rfl
  | x :: xs, y :: ys => by
    rw [Lib.compareBytes, lexL, compareBytes_lex xs ys]
    have e1 : (x < y) ↔ byteI x < byteI y := by unfold byteI; rw [UInt8.lt_iff_toNat_lt]; omega
    have e2 : (y < x) ↔ byteI y < byteI x := by unfold byteI; rw [UInt8.lt_iff_toNat_lt]; omega
    unfold cmpI
    by_cases a : x < y
    · rw [if_pos a, if_pos (e1.1 a), if_neg (by omega)]
    · rw [if_neg a, if_neg (fun h => a (e1.2 h))]
      by_cases b : y < x
      · rw [if_pos b, if_pos (show byteI x > byteI y from e2.1 b), if_neg (by omega)]
      · rw [if_neg b, if_neg (fun h => b (e2.2 h)), if_pos rfl]
theorem tot_bytes : Tot Lib.compareBytes := by
  have h : Tot (lexL fun x y => cmpI (byteI x) (byteI y)) := tot_list (tot_int.pull byteI)
  rw [show Lib.compareBytes = lexL fun x y => cmpI (byteI x) (byteI y) from funext fun a => funext fun b => compareBytes_lex a b]
  exact h
theorem tot_cz : Tot cz := tot_bytes.pull fun s : ByteArray => s.data.toList
def cls (a : ByteArray) : Int := if digB a = true then 0 else 1
def len' (a : ByteArray) : Int := if digB a = true then (a.size : Int) else 0
theorem byWordZ_lex (a b : ByteArray) : byWordZ a b = if cmpI (cls a) (cls b) = 0 then (if cmpI (len' a) (len' b) = 0 then cz a b else cmpI (len' a) (len' b)) else cmpI (cls a) (cls b) := by
  have c00 : cmpI 0 0 = 0 := rfl
  have c11 : cmpI 1 1 = 0 := rfl
  have c01 : cmpI 0 1 = -1 := rfl
  have c10 : cmpI 1 0 = 1 := rfl
  unfold byWordZ cls len'
  by_cases x : digB a = true
  · rw [if_pos x, if_pos x, if_pos x]
    by_cases y : digB b = true
    · rw [if_pos y, if_pos y, if_pos y, c00, if_pos rfl]
    · rw [if_neg y, if_neg y, if_neg y, c01, if_neg (by omega)]
  · rw [if_neg x, if_neg x, if_neg x]
    by_cases y : digB b = true
    · rw [if_pos y, if_pos y, if_pos y, c10, if_neg (by omega)]
    · rw [if_neg y, if_neg y, if_neg y, c11, if_pos rfl, c00, if_pos rfl]
theorem tot_word : Tot byWordZ := by
  have h : Tot fun a b : ByteArray => if cmpI (cls a) (cls b) = 0 then (if cmpI (len' a) (len' b) = 0 then cz a b else cmpI (len' a) (len' b)) else cmpI (cls a) (cls b) :=
    Tot.lex (tot_int.pull cls) (Tot.lex (tot_int.pull len') tot_cz)
  rw [show byWordZ = fun a b : ByteArray => if cmpI (cls a) (cls b) = 0 then (if cmpI (len' a) (len' b) = 0 then cz a b else cmpI (len' a) (len' b)) else cmpI (cls a) (cls b) from funext fun a => funext fun b => byWordZ_lex a b]
  exact h
theorem cmpL_lex : ∀ l m : List ByteArray, cmpL l m = lexL byWordZ l m
  | [], [] => rfl
  | [], _ :: _ => rfl
  | _ :: _, [] => rfl
  | x :: xs, y :: ys => by rw [cmpL, lexL, cmpL_lex xs ys]
theorem toList_eq (a b : ByteArray) : a.toList = b.toList ↔ a = b := by
  constructor
  · intro h; rw [ByteArray.toList_eq, ByteArray.toList_eq] at h; exact tl_inj h
  · intro h; rw [h]
theorem tot_cmpL : Tot cmpL := by
  rw [show cmpL = lexL byWordZ from funext fun a => funext fun b => cmpL_lex a b]
  exact tot_list tot_word
structure Vr where
  a : Int
  b : Int
  c : Int
  p : ByteArray
  q : ByteArray
def Vr.ok (v : Vr) : Bool := checkB v.a v.b v.c v.p v.q
/-- The order, of versions that may be. -/
def ordV (x y : Vr) : Int := if cmpI x.a y.a = 0 then (if cmpI x.b y.b = 0 then (if cmpI x.c y.c = 0 then preZ x.p y.p else cmpI x.c y.c) else cmpI x.b y.b) else cmpI x.a y.a
def compareZ (x y : Vr) : Int := if x.ok = true then (if y.ok = true then ordV x y else 0) else 0
end Go.Proofs.YthoiepkejhhcoaaDoor.P
