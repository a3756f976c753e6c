/- What an argument of any kind reads as: numbers, bools, texts, structs, arrays and slices of these, by the form of its type. -/
import Derived.Test.YtajgpmeilpjadaaZRecBackM0
import Derived.OpenShut
import Derived.Deep.Slices
import Derived.ChangeArms
set_option linter.unusedVariables false
set_option linter.unusedSimpArgs false
namespace Go.Proofs.Ytajgpmeilpjadaa.Op
open Go.RowKit Go.Deep Go.ChangeShapes Go.WideShapes Go.Proofs.YtajgpmeilpjadaaW.PrintWords Go.Proofs.YtajgpmeilpjadaaW.PrintLast Go.Proofs.YtajgpmeilpjadaaW.PrintMore
/-- How cells of a type read. -/
structure Cdc (P : Program) (t : TypeId) (α : Type) where
  sz : Nat
  K : World → α → List Value → Prop
  hsz : P.cellsOf t = sz
  len : ∀ {w a cs}, K w a cs → cs.length = sz
  opens : ∀ {H : Type} {enc : TypeId × Value → H} {w : World} {base : Nat} {spare : Nat → Bool} {held : Bool} {fuel : Nat} {cs : List Value} {x : DataW H × List MemPlace},
    DataW.trod enc P w base spare held fuel t cs = some x → ∃ a, K w a cs
def Cdc.int {P : Program} {t : TypeId} {k : IntKind} (ht : P.underlying t = some (.int k)) (hc : P.cellsOf t = 1) : Cdc P t Int where
  sz := 1
  K := fun _ a cs => cs = [.int k a] ∧ (Lit.int k a).wf = true
  hsz := hc
  len := fun h => by rw [h.1]; rfl
  opens := fun h => by
    obtain ⟨n, h1, _, h2⟩ := DataW.trod_int ht h
    exact ⟨n, h1, h2⟩
/-- The fields of a struct, from an offset on. -/
structure Fl (P : Program) (fs : List Field) (off : Nat) (α : Type) where
  sz : Nat
  K : World → α → List Value → Prop
  len : ∀ {w a cs}, K w a cs → cs.length = sz
  opens : ∀ {H : Type} {enc : TypeId × Value → H} {w : World} {base : Nat} {spare : Nat → Bool} {held : Bool} {n : Nat} {cs : List Value} {xs : List (DataW H × List MemPlace)}, xs.length = fs.length → cs.length = off + sz →
    (∀ (i : Nat) (f : Field), fs[i]? = some f → DataW.trod enc P w base spare held n f.type ((cs.drop f.offset).take (P.cellsOf f.type)) = xs[i]?) → ∃ a, K w a (cs.drop off)
def Fl.nil {P : Program} {off : Nat} : Fl P [] off Unit where
  sz := 0
  K := fun _ _ cs => cs = []
  len := fun h => by rw [h]; rfl
  opens := fun _ h _ => ⟨(), by rw [List.drop_eq_nil_iff]; omega⟩
def Fl.cons {P : Program} {f : Field} {fs : List Field} {off : Nat} {α β : Type} (c : Cdc P f.type α) (ho : f.offset = off) (r : Fl P fs (off + c.sz) β) : Fl P (f :: fs) off (α × β) where
  sz := c.sz + r.sz
  K := fun w a cs => ∃ c0 c1, cs = c0 ++ c1 ∧ c.K w a.1 c0 ∧ r.K w a.2 c1
  len := fun ⟨c0, c1, h, h0, h1⟩ => by rw [h, List.length_append, c.len h0, r.len h1]
  opens := fun {H enc w base spare held n cs xs} hx hl h => by
    match xs, hx with
    | x :: xs, hx =>
      have h0 := h 0 f rfl
      rw [List.getElem?_cons_zero] at h0
      obtain ⟨a, ha⟩ := c.opens h0
      obtain ⟨b, hb⟩ := r.opens (cs := cs) (xs := xs) (by simpa using hx) (by omega) (fun i g hg => by simpa using h (i + 1) g (by simpa using hg))
      refine ⟨(a, b), _, _, ?_, ha, hb⟩
      rw [c.hsz, ho, ← List.drop_drop, List.take_append_drop]
def Cdc.struct {P : Program} {t : TypeId} {α : Type} {fs : Array Field} (ht : P.underlying t = some (.struct fs)) (r : Fl P fs.toList 0 α) (hc : P.cellsOf t = r.sz) : Cdc P t α where
  sz := r.sz
  K := r.K
  hsz := hc
  len := r.len
  opens := fun {H enc w base spare held fuel cs x} h => by
    obtain ⟨xs, n, _, _, hl, hxl, hf⟩ := DataW.trod_struct ht h
    obtain ⟨a, ha⟩ := r.opens (xs := xs) (by simpa using hxl) (by omega) (fun i f hi => hf i f (by simpa using hi))
    exact ⟨a, by simpa using ha⟩
theorem i64_of_wf {n : Int} (h : (Lit.int .i64 n).wf = true) : -9223372036854775808 ≤ n ∧ n ≤ 9223372036854775807 := by
  simp [Lit.wf, IntKind.min, IntKind.max, IntKind.bits, IntKind.signed] at h
  omega
/-- A struct by value. -/
theorem open_struct {P : Program} {t : TypeId} {α : Type} {fs : Array Field} (c : Cdc P t α) (ht : P.underlying t = some (.struct fs)) {H : Type} {enc : TypeId × Value → H} {w : World} {base : Nat} {spare : Nat → Bool} {held : Bool} {r : Reach} {b0 : Nat} {v : Value} {d : DataW H} {p : List MemPlace}
    (hv : Value.okWide P w r b0 t v) (h : DataW.Trod enc P w base spare held t v d p) : ∃ (a : α) (cs : List Value), v = .agg ⟨cs⟩ ∧ c.K w a cs := by
  obtain ⟨cs, rfl, hsz⟩ := okWide_struct ht hv
  obtain ⟨fuel, hf⟩ := h
  obtain ⟨a, ha⟩ := c.opens hf
  exact ⟨a, cs.toList, rfl, ha⟩
theorem lt_of_trod {P : Program} {t : TypeId} {H : Type} {enc : TypeId × Value → H} {w : World} {base : Nat} {spare : Nat → Bool} {held : Bool} {v : Value} {d : DataW H} {p : List MemPlace}
    (h : DataW.Trod enc P w base spare held t v d p) : ∀ x ∈ p, x.block < w.heap.size := by
  obtain ⟨m, hm⟩ := h
  exact DataW.trod_lt m _ _ _ hm
end Go.Proofs.Ytajgpmeilpjadaa.Op
