/- What an argument of any kind reads as: numbers, bools, texts, structs, arrays and slices of these, by the form of its type. -/
import Derived.Test.YtnoafmnjnmlhmaaZDTM0
import Derived.OpenShut
import Derived.Deep.Slices
import Derived.ChangeArms
import Derived.SizedLaws
set_option linter.unusedVariables false
set_option linter.unusedSimpArgs false
namespace Go.Proofs.Ytnoafmnjnmlhmaa.Op
open Go.RowKit Go.Deep Go.ChangeShapes Go.WideShapes Go.Proofs.YtnoafmnjnmlhmaaW.PrintWords Go.Proofs.YtnoafmnjnmlhmaaW.PrintLast Go.Proofs.YtnoafmnjnmlhmaaW.PrintMore
/-- No row and no text in it weighs more than what can be reached. -/
def Light {H : Type} (P : Program) (t : TypeId) (d : DataW H) : Prop := ∀ n ∈ d.weights P t, n ≤ reachBytes
theorem Light.each {H : Type} {P : Program} : ∀ {ts : List TypeId} {ds : List (DataW H)}, (∀ n ∈ DataW.weightsEach P ts ds, n ≤ reachBytes) → ∀ (j : Nat) {t : TypeId} {d : DataW H}, ts[j]? = some t → ds[j]? = some d → Light P t d :=
  fun h _ _ _ ht hd n hn => h n (DataW.weights_mem_each ht hd n hn)
theorem Light.all {H : Type} {P : Program} {e : TypeId} : ∀ {ds : List (DataW H)}, (∀ n ∈ DataW.weightsAll P e ds, n ≤ reachBytes) → ∀ (j : Nat) {d : DataW H}, ds[j]? = some d → Light P e d
  | [], _, j, d, hd => by simp at hd
  | x :: r, h, 0, d, hd => by
    obtain rfl : x = d := by simpa using hd
    intro n hn
    exact h n (by simp only [DataW.weightsAll, List.mem_append]; exact .inl hn)
  | x :: r, h, j + 1, d, hd => Light.all (ds := r) (fun n hn => h n (by simp only [DataW.weightsAll, List.mem_append]; exact .inr hn)) j (by simpa using hd)
theorem Light.arg {H : Type} {P : Program} {ts : List TypeId} {ds : List (DataW H)} (h : (DataW.weightsEach P ts ds).all (· ≤ reachBytes) = true) (j : Nat) {t : TypeId} {d : DataW H} (ht : ts[j]? = some t) (hd : ds[j]? = some d) : Light P t d :=
  Light.each (fun n hn => of_decide_eq_true (List.all_eq_true.1 h n hn)) j ht hd
/-- How cells of a type read. -/
structure Cdc (P : Program) (t : TypeId) (α : Type) where
  sz : Nat
  K : World → α → List Value → Prop
  hsz : P.cellsOf t = sz
  len : ∀ {w a cs}, K w a cs → cs.length = sz
  opens : ∀ {H : Type} {enc : TypeId × Value → H} {w : World} {base : Nat} {spare : Nat → Bool} {held : Bool} {fuel : Nat} {cs : List Value} {x : DataW H × List MemPlace},
    DataW.trod enc P w base spare held fuel t cs = some x → Light P t x.1 → ∃ a, K w a cs
def Cdc.int {P : Program} {t : TypeId} {k : IntKind} (ht : P.underlying t = some (.int k)) (hc : P.cellsOf t = 1) : Cdc P t Int where
  sz := 1
  K := fun _ a cs => cs = [.int k a] ∧ (Lit.int k a).wf = true
  hsz := hc
  len := fun h => by rw [h.1]; rfl
  opens := fun h _ => by
    obtain ⟨n, h1, _, h2⟩ := DataW.trod_int ht h
    exact ⟨n, h1, h2⟩
def Cdc.bool {P : Program} {t : TypeId} (ht : P.underlying t = some .bool) (hc : P.cellsOf t = 1) : Cdc P t Bool where
  sz := 1
  K := fun _ a cs => cs = [.bool a]
  hsz := hc
  len := fun h => by rw [h]; rfl
  opens := fun h _ => by
    obtain ⟨n, h1, _⟩ := DataW.trod_bool ht h
    exact ⟨n, h1⟩
def Cdc.str {P : Program} {t : TypeId} (ht : P.underlying t = some .string) (hc : P.cellsOf t = 1) : Cdc P t ByteArray where
  sz := 1
  K := fun _ a cs => cs = [.string a] ∧ a.size ≤ 140737488351232
  hsz := hc
  len := fun h => by rw [h.1]; rfl
  opens := fun h hw => by
    obtain ⟨n, h1, h3, h2⟩ := DataW.trod_string ht h
    subst h3
    have := hw n.data.toList.length (by simp [DataW.weights])
    rw [Array.length_toList] at this
    exact ⟨n, h1, this⟩
def Cdc.slice {P : Program} {t te : TypeId} {α : Type} (ht : P.underlying t = some (.slice te)) (hc : P.cellsOf t = 1) (e : Cdc P te α) : Cdc P t (Option Addr × Nat × List α) where
  sz := 1
  K := fun w a cs => cs = [.slice a.1 a.2.2.length a.2.1] ∧ a.2.2.length ≤ a.2.1 ∧ ReadsRow (e.K w) e.sz w a.1 a.2.2.length a.2.2
  hsz := hc
  len := fun h => by rw [h.1]; rfl
  opens := fun {H enc w base spare held fuel cs x} h hw => by
    rcases DataW.trod_slice ht h with ⟨rfl, _⟩ | ⟨a, len, cap, elems, rest, n, _, rfl, hx, hb, hl, hm, hlen, hel, _, _⟩
    · exact ⟨(none, 0, []), rfl, Nat.le_refl _, rfl, Nat.zero_le _, fun h => by cases h⟩
    · subst hx
      have hwe : ∀ n ∈ DataW.weightsAll P te (elems.map (·.1)), n ≤ reachBytes := fun n hn => hw n (by simp only [DataW.weights, ht, List.mem_cons, List.mem_append]; exact .inr (.inl hn))
      have each : ∀ i, i < len → ∃ y, ∃ c, c.length = e.sz ∧ e.K w y c ∧ ∀ j u, c[j]? = some u → w.cell? (a.add (i * e.sz + j)) = some u := by
        intro i hi
        have h1 := hel i hi
        have hi' : i < elems.length := by omega
        rw [List.getElem?_eq_getElem hi', Option.bind_eq_some_iff] at h1
        obtain ⟨c, hcs, hy⟩ := h1
        obtain ⟨_, hcl, hat⟩ := World.cells?_some hcs
        obtain ⟨y, hK⟩ := e.opens hy (Light.all hwe i (by rw [List.getElem?_map, List.getElem?_eq_getElem hi']; rfl))
        refine ⟨y, c, e.len hK, hK, fun j u hu => ?_⟩
        have hj : j < c.length := (List.getElem?_eq_some_iff.1 hu).1
        rw [← Deep.add_add, ← e.hsz, hat j (by omega), hu]
      have big : ∀ m, m ≤ len → ∃ l : List α, l.length = m ∧ ∀ i p, l[i]? = some p → ∃ c, c.length = e.sz ∧ e.K w p c ∧ ∀ j u, c[j]? = some u → w.cell? (a.add (i * e.sz + j)) = some u := by
        intro m
        induction m with
        | zero => intro _; exact ⟨[], rfl, fun i p h => by simp at h⟩
        | succ m ih =>
          intro hm2
          obtain ⟨l, h1, h2⟩ := ih (by omega)
          obtain ⟨y, hy⟩ := each m (by omega)
          refine ⟨l ++ [y], by simp [h1], fun i p hp => ?_⟩
          rcases Nat.lt_or_ge i l.length with hi | hi
          · rw [List.getElem?_append_left hi] at hp
            exact h2 i p hp
          · have hi2 : i = m := by
              have := (List.getElem?_eq_some_iff.1 hp).1
              rw [List.length_append, List.length_singleton] at this
              omega
            subst hi2
            rw [List.getElem?_append_right (by omega)] at hp
            have : y = p := by simpa [h1] using hp
            subst this
            exact hy
      obtain ⟨l, h1, h2⟩ := big len (Nat.le_refl _)
      subst h1
      exact ⟨(some a, cap, l), rfl, hl, rfl, by unfold maxLen at hm; show l.length ≤ _; omega, fun _ => ⟨a, rfl, h2⟩⟩
/-- The fields of a struct, from an offset on. -/
structure Fl (P : Program) (fs : List Field) (off : Nat) (α : Type) where
  sz : Nat
  K : World → α → List Value → Prop
  len : ∀ {w a cs}, K w a cs → cs.length = sz
  opens : ∀ {H : Type} {enc : TypeId × Value → H} {w : World} {base : Nat} {spare : Nat → Bool} {held : Bool} {n : Nat} {cs : List Value} {xs : List (DataW H × List MemPlace)}, xs.length = fs.length → cs.length = off + sz → (∀ n ∈ DataW.weightsEach P (fs.map (·.type)) (xs.map (·.1)), n ≤ reachBytes) →
    (∀ (i : Nat) (f : Field), fs[i]? = some f → DataW.trod enc P w base spare held n f.type ((cs.drop f.offset).take (P.cellsOf f.type)) = xs[i]?) → ∃ a, K w a (cs.drop off)
def Fl.nil {P : Program} {off : Nat} : Fl P [] off Unit where
  sz := 0
  K := fun _ _ cs => cs = []
  len := fun h => by rw [h]; rfl
  opens := fun _ h _ _ => ⟨(), by rw [List.drop_eq_nil_iff]; omega⟩
def Fl.cons {P : Program} {f : Field} {fs : List Field} {off : Nat} {α β : Type} (c : Cdc P f.type α) (ho : f.offset = off) (r : Fl P fs (off + c.sz) β) : Fl P (f :: fs) off (α × β) where
  sz := c.sz + r.sz
  K := fun w a cs => ∃ c0 c1, cs = c0 ++ c1 ∧ c.K w a.1 c0 ∧ r.K w a.2 c1
  len := fun ⟨c0, c1, h, h0, h1⟩ => by rw [h, List.length_append, c.len h0, r.len h1]
  opens := fun {H enc w base spare held n cs xs} hx hl hw h => by
    match xs, hx with
    | x :: xs, hx =>
      simp only [List.map_cons, DataW.weightsEach, List.mem_append] at hw
      have h0 := h 0 f rfl
      rw [List.getElem?_cons_zero] at h0
      obtain ⟨a, ha⟩ := c.opens h0 (fun n hn => hw n (.inl hn))
      obtain ⟨b, hb⟩ := r.opens (cs := cs) (xs := xs) (by simpa using hx) (by omega) (fun n hn => hw n (.inr hn)) (fun i g hg => by simpa using h (i + 1) g (by simpa using hg))
      refine ⟨(a, b), _, _, ?_, ha, hb⟩
      rw [c.hsz, ho, ← List.drop_drop, List.take_append_drop]
def Cdc.struct {P : Program} {t : TypeId} {α : Type} {fs : Array Field} (ht : P.underlying t = some (.struct fs)) (r : Fl P fs.toList 0 α) (hc : P.cellsOf t = r.sz) : Cdc P t α where
  sz := r.sz
  K := r.K
  hsz := hc
  len := r.len
  opens := fun {H enc w base spare held fuel cs x} h hw => by
    obtain ⟨xs, n, _, hx, hl, hxl, hf⟩ := DataW.trod_struct ht h
    subst hx
    obtain ⟨a, ha⟩ := r.opens (xs := xs) (by simpa using hxl) (by omega) (fun n hn => hw n (by simp only [DataW.weights, ht]; exact hn)) (fun i f hi => hf i f (by simpa using hi))
    exact ⟨a, by simpa using ha⟩
/-- An array, as a list of its length. -/
def Cdc.array {P : Program} {t te : TypeId} {α : Type} {n : Nat} (ht : P.underlying t = some (.array n te)) (e : Cdc P te α) (h1 : e.sz = 1) (hc : P.cellsOf t = n) : Cdc P t (List α) where
  sz := n
  K := fun w a cs => cs.length = n ∧ a.length = n ∧ ∀ (i : Nat) (x : α), a[i]? = some x → ∃ u, cs[i]? = some u ∧ e.K w x [u]
  hsz := hc
  len := fun h => h.1
  opens := fun {H enc w base spare held fuel cs x} h hw => by
    obtain ⟨xs, m, _, hx, hl, hxl, hf⟩ := DataW.trod_array ht h
    subst hx
    have hwe : ∀ n ∈ DataW.weightsAll P te (xs.map (·.1)), n ≤ reachBytes := fun n hn => hw n (by simp only [DataW.weights, ht]; exact hn)
    rw [hc] at hl
    have each : ∀ i, i < n → ∃ x u, cs[i]? = some u ∧ e.K w x [u] := by
      intro i hi
      have h2 := hf i hi
      rw [List.getElem?_eq_getElem (show i < xs.length by omega), e.hsz, h1, Nat.mul_one, List.drop_eq_getElem_cons (show i < cs.length by omega)] at h2
      rw [List.take_succ_cons, List.take_zero] at h2
      obtain ⟨a, ha⟩ := e.opens h2 (Light.all hwe i (by rw [List.getElem?_map, List.getElem?_eq_getElem (show i < xs.length by omega)]; rfl))
      exact ⟨a, _, List.getElem?_eq_getElem (by omega), ha⟩
    have big : ∀ m, m ≤ n → ∃ l : List α, l.length = m ∧ ∀ (i : Nat) (x : α), l[i]? = some x → ∃ u, cs[i]? = some u ∧ e.K w x [u] := by
      intro m
      induction m with
      | zero => intro _; exact ⟨[], rfl, fun i p h => by simp at h⟩
      | succ m ih =>
        intro hm2
        obtain ⟨l, h3, h4⟩ := ih (by omega)
        obtain ⟨y, hy⟩ := each m (by omega)
        refine ⟨l ++ [y], by simp [h3], fun i p hp => ?_⟩
        rcases Nat.lt_or_ge i l.length with hi | hi
        · rw [List.getElem?_append_left hi] at hp
          exact h4 i p hp
        · have hi2 : i = m := by
            have := (List.getElem?_eq_some_iff.1 hp).1
            rw [List.length_append, List.length_singleton] at this
            omega
          subst hi2
          rw [List.getElem?_append_right (by omega)] at hp
          have : y = p := by simpa [h3] using hp
          subst this
          exact hy
    obtain ⟨l, h3, h4⟩ := big n (Nat.le_refl _)
    exact ⟨l, hl, h3, h4⟩
/-- The same cells, read as another kind of thing. -/
def Cdc.map {P : Program} {t : TypeId} {α β : Type} (e : Cdc P t α) (f : α → β) : Cdc P t β where
  sz := e.sz
  K := fun w b cs => ∃ a, b = f a ∧ e.K w a cs
  hsz := e.hsz
  len := fun ⟨_, _, h⟩ => e.len h
  opens := fun h hw => by
    obtain ⟨a, ha⟩ := e.opens h hw
    exact ⟨f a, a, rfl, ha⟩
theorem row_len {α : Type} {R : α → List Value → Prop} {size : Nat} {w : World} {A : Option Addr} {n : Nat} {l : List α} (h : ReadsRow R size w A n l) : n ≤ 9223372036854775807 := h.2.1
theorem row_C {α : Type} {R R' : α → List Value → Prop} {size : Nat} {w : World} {A : Option Addr} {n : Nat} {l : List α} (h : ReadsRow R size w A n l) (hR : ∀ p c, R p c → R' p c) : ReadsRow R' size w A n l :=
  h.imp_ (Below.refl _ _) hR
/-- A struct by value. -/
theorem open_struct {P : Program} {t : TypeId} {α : Type} {fs : Array Field} (c : Cdc P t α) (ht : P.underlying t = some (.struct fs)) {H : Type} {enc : TypeId × Value → H} {w : World} {base : Nat} {spare : Nat → Bool} {held : Bool} {r : Reach} {b0 : Nat} {v : Value} {d : DataW H} {p : List MemPlace}
    (hv : Value.okWide P w r b0 t v) (h : DataW.Trod enc P w base spare held t v d p) (hw : Light P t d) : ∃ (a : α) (cs : List Value), v = .agg ⟨cs⟩ ∧ c.K w a cs := by
  obtain ⟨cs, rfl, hsz⟩ := okWide_struct ht hv
  obtain ⟨fuel, hf⟩ := h
  obtain ⟨a, ha⟩ := c.opens hf hw
  exact ⟨a, cs.toList, rfl, ha⟩
/-- A slice. -/
theorem open_row {P : Program} {t te : TypeId} {α : Type} (c : Cdc P t (Option Addr × Nat × List α)) (ht : P.underlying t = some (.slice te)) {H : Type} {enc : TypeId × Value → H} {w : World} {base : Nat} {spare : Nat → Bool} {held : Bool} {r : Reach} {b0 : Nat} {v : Value} {d : DataW H} {p : List MemPlace}
    (hv : Value.okWide P w r b0 t v) (h : DataW.Trod enc P w base spare held t v d p) (hw : Light P t d) : ∃ (a : Option Addr × Nat × List α), c.K w a [v] := by
  obtain ⟨A, l, cp, rfl⟩ := okWide_slice ht hv
  obtain ⟨fuel, hf⟩ := h
  obtain ⟨a, ha⟩ := c.opens hf hw
  exact ⟨a, ha⟩
theorem lt_of_trod {P : Program} {t : TypeId} {H : Type} {enc : TypeId × Value → H} {w : World} {base : Nat} {spare : Nat → Bool} {held : Bool} {v : Value} {d : DataW H} {p : List MemPlace}
    (h : DataW.Trod enc P w base spare held t v d p) : ∀ x ∈ p, x.block < w.heap.size := by
  obtain ⟨m, hm⟩ := h
  exact DataW.trod_lt m _ _ _ hm
end Go.Proofs.Ytnoafmnjnmlhmaa.Op
