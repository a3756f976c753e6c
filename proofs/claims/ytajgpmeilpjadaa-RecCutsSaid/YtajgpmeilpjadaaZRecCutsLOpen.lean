/- What an argument of any kind reads as: numbers, bools, texts, structs, arrays and slices of these, by the form of its type. -/
import Derived.Test.YtajgpmeilpjadaaZRecCutsM0
import Derived.OpenShut
import Derived.Deep.Slices
import Derived.ChangeArms
set_option linter.unusedVariables false
set_option linter.unusedSimpArgs false
namespace Go.Proofs.Ytajgpmeilpjadaa.Op
open Go.RowKit Go.Deep Go.ChangeShapes Go.WideShapes Go.Proofs.YtajgpmeilpjadaaW.PrintWords Go.Proofs.YtajgpmeilpjadaaW.PrintLast Go.Proofs.YtajgpmeilpjadaaW.PrintMore
/-- How cells of a type read. -/
structure Cdc (P : Program) (t : TypeId) (α : Type) where
  sz : Nat
  K : World → α → List Value → Prop
  hsz : P.cellsOf t = sz
  len : ∀ {w a cs}, K w a cs → cs.length = sz
  opens : ∀ {H : Type} {enc : TypeId × Value → H} {w : World} {base : Nat} {spare : Nat → Bool} {held : Bool} {fuel : Nat} {cs : List Value} {x : DataW H × List MemPlace},
    DataW.trod enc P w base spare held fuel t cs = some x → ∃ a, K w a cs
def Cdc.str {P : Program} {t : TypeId} (ht : P.underlying t = some .string) (hc : P.cellsOf t = 1) : Cdc P t ByteArray where
  sz := 1
  K := fun _ a cs => cs = [.string a] ∧ a.size ≤ 9223372036854775807
  hsz := hc
  len := fun h => by rw [h.1]; rfl
  opens := fun h => by
    obtain ⟨n, h1, _, h2⟩ := DataW.trod_string ht h
    exact ⟨n, h1, by unfold maxLen at h2; exact h2⟩
def Cdc.slice {P : Program} {t te : TypeId} {α : Type} (ht : P.underlying t = some (.slice te)) (hc : P.cellsOf t = 1) (e : Cdc P te α) : Cdc P t (Option Addr × Nat × List α) where
  sz := 1
  K := fun w a cs => cs = [.slice a.1 a.2.2.length a.2.1] ∧ a.2.2.length ≤ a.2.1 ∧ ReadsRow (e.K w) e.sz w a.1 a.2.2.length a.2.2
  hsz := hc
  len := fun h => by rw [h.1]; rfl
  opens := fun {H enc w base spare held fuel cs x} h => by
    rcases DataW.trod_slice ht h with ⟨rfl, _⟩ | ⟨a, len, cap, elems, rest, n, _, rfl, _, hb, hl, hm, hlen, hel, _, _⟩
    · exact ⟨(none, 0, []), rfl, Nat.le_refl _, rfl, Nat.zero_le _, fun h => by cases h⟩
    · have each : ∀ i, i < len → ∃ y, ∃ c, c.length = e.sz ∧ e.K w y c ∧ ∀ j u, c[j]? = some u → w.cell? (a.add (i * e.sz + j)) = some u := by
        intro i hi
        have h1 := hel i hi
        have hi' : i < elems.length := by omega
        rw [List.getElem?_eq_getElem hi', Option.bind_eq_some_iff] at h1
        obtain ⟨c, hcs, hy⟩ := h1
        obtain ⟨_, hcl, hat⟩ := World.cells?_some hcs
        obtain ⟨y, hK⟩ := e.opens hy
        refine ⟨y, c, e.len hK, hK, fun j u hu => ?_⟩
        have hj : j < c.length := (List.getElem?_eq_some_iff.1 hu).1
        rw [← Deep.add_add, ← e.hsz, hat j (by omega), hu]
      have big : ∀ m, m ≤ len → ∃ l : List α, l.length = m ∧ ∀ i p, l[i]? = some p → ∃ c, c.length = e.sz ∧ e.K w p c ∧ ∀ j u, c[j]? = some u → w.cell? (a.add (i * e.sz + j)) = some u := by
        intro m
        induction m with
        | zero => intro _; exact ⟨[], rfl, fun i p h => by simp at h⟩
        | succ m ih =>
          intro hm2
          obtain ⟨l, h1, h2⟩ := ih (by omega)
          obtain ⟨y, hy⟩ := each m (by omega)
          refine ⟨l ++ [y], by simp [h1], fun i p hp => ?_⟩
          rcases Nat.lt_or_ge i l.length with hi | hi
          · rw [List.getElem?_append_left hi] at hp
            exact h2 i p hp
          · have hi2 : i = m := by
              have := (List.getElem?_eq_some_iff.1 hp).1
              rw [List.length_append, List.length_singleton] at this
              omega
            subst hi2
            rw [List.getElem?_append_right (by omega)] at hp
            have : y = p := by simpa [h1] using hp
            subst this
            exact hy
      obtain ⟨l, h1, h2⟩ := big len (Nat.le_refl _)
      subst h1
      exact ⟨(some a, cap, l), rfl, hl, rfl, by unfold maxLen at hm; show l.length ≤ _; omega, fun _ => ⟨a, rfl, h2⟩⟩
theorem row_C {α : Type} {R R' : α → List Value → Prop} {size : Nat} {w : World} {A : Option Addr} {n : Nat} {l : List α} (h : ReadsRow R size w A n l) (hR : ∀ p c, R p c → R' p c) : ReadsRow R' size w A n l :=
  h.imp_ (Below.refl _ _) hR
/-- A slice. -/
theorem open_row {P : Program} {t te : TypeId} {α : Type} (c : Cdc P t (Option Addr × Nat × List α)) (ht : P.underlying t = some (.slice te)) {H : Type} {enc : TypeId × Value → H} {w : World} {base : Nat} {spare : Nat → Bool} {held : Bool} {r : Reach} {b0 : Nat} {v : Value} {d : DataW H} {p : List MemPlace}
    (hv : Value.okWide P w r b0 t v) (h : DataW.Trod enc P w base spare held t v d p) : ∃ (a : Option Addr × Nat × List α), c.K w a [v] := by
  obtain ⟨A, l, cp, rfl⟩ := okWide_slice ht hv
  obtain ⟨fuel, hf⟩ := h
  obtain ⟨a, ha⟩ := c.opens hf
  exact ⟨a, ha⟩
theorem lt_of_trod {P : Program} {t : TypeId} {H : Type} {enc : TypeId × Value → H} {w : World} {base : Nat} {spare : Nat → Bool} {held : Bool} {v : Value} {d : DataW H} {p : List MemPlace}
    (h : DataW.Trod enc P w base spare held t v d p) : ∀ x ∈ p, x.block < w.heap.size := by
  obtain ⟨m, hm⟩ := h
  exact DataW.trod_lt m _ _ _ hm
end Go.Proofs.Ytajgpmeilpjadaa.Op
