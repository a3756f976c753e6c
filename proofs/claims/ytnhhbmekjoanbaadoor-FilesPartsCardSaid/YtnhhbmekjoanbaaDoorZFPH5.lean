/- files: what the document's small functions tell: Small, Few, Get, Same, Ops. -/
import Derived.Test.YtnhhbmekjoanbaaDoorZFPH4
import Derived.Test.YtnhhbmekjoanbaaDoorZFPM0
import Derived.OpenShut
import Derived.Deep.Slices
import Derived.ChangeArms
import Derived.SizedLaws
import Derived.Test.YtnhhbmekjoanbaaDoorZFPM2
namespace Go.Proofs.YtnhhbmekjoanbaaDoor.P
open Go.RowKit Go.Proofs.YtnhhbmekjoanbaaDoorW.PrintWords Go.Proofs.YtnhhbmekjoanbaaDoorW.PrintLast Go.Proofs.YtnhhbmekjoanbaaDoorW.PrintMore
set_option linter.unusedVariables false
theorem tl_eq {a b : ByteArray} (h : a.toList = b.toList) : a = b := by
  rw [ByteArray.toList_eq, ByteArray.toList_eq] at h
  exact tl_inj h
theorem up1 (i n : Nat) (h : i < n) (hn : n ≤ 9223372036854775807) : wrap64 ((i : Int) + 1) = ((i + 1 : Nat) : Int) := by rw [gw64 (by omega) (by omega)]; rfl
def litB (x : S49) : Bool := decide (x.f0.size ≤ 200) && decide (x.f1.size ≤ 5000)
theorem small_l0 (l : List S49) (hl : l.length ≤ 9223372036854775807) : ∀ (k i : Nat), i ≤ l.length → l.length - i < k → armadaref05_Small.l0 k l (i : Int) = some ((l.drop i).all litB && decide (l.length ≤ 60))
  | 0, _, _, h => absurd h (by omega)
  | k + 1, i, hi, h => by
    rw [armadaref05_Small.l0]
    cases hd : l.drop i with
    | nil =>
      have := List.drop_eq_nil_iff.1 hd
      rw [if_neg (by omega), List.all_nil, Bool.true_and]
      congr 1
      apply decide_eq_decide.2; omega
    | cons x r =>
      obtain ⟨h1, h2, h3⟩ := rdF_drop hd
      rw [if_pos (by omega), if_pos (by omega), h1, List.all_cons, litB]
      have ih := small_l0 l hl k (i + 1) (by omega) (by omega)
      rw [h3] at ih
      by_cases h4 : x.f0.size ≤ 200
      · rw [if_neg (by omega), decide_eq_true h4]
        by_cases h5 : x.f1.size ≤ 5000
        · rw [if_neg (by omega), decide_eq_true h5, up1 i _ h2 hl, ih]; rfl
        · rw [if_pos (by omega), decide_eq_false h5]; rfl
      · rw [if_pos (by omega), decide_eq_false h4]; rfl
def eqF (x y : S49) : Bool := (x.f0.toList == y.f0.toList) && (x.f1.toList == y.f1.toList)
def sameB : List S49 → List S49 → Bool
  | [], [] => true
  | x :: l, y :: m => eqF x y && sameB l m
  | _, _ => false
theorem eqF_iff (x y : S49) : eqF x y = true ↔ x = y := by
  obtain ⟨a, b⟩ := x
  obtain ⟨c, d⟩ := y
  unfold eqF
  simp only [Bool.and_eq_true, beq_iff_eq]
  constructor
  · rintro ⟨h1, h2⟩
    rw [tl_eq h1, tl_eq h2]
  · intro h
    injection h with h1 h2
    rw [h1, h2]
    exact ⟨rfl, rfl⟩
theorem sameB_iff : ∀ l m : List S49, sameB l m = true ↔ l = m
  | [], [] => by simp [sameB]
  | [], _ :: _ => by simp [sameB]
  | _ :: _, [] => by simp [sameB]
  | x :: l, y :: m => by
    rw [sameB, Bool.and_eq_true, eqF_iff, sameB_iff l m, List.cons.injEq]
theorem rsame_l0 (l m : List S49) (hl : l.length ≤ 9223372036854775807) (hm : l.length = m.length) : ∀ (k i : Nat), i ≤ l.length → l.length - i < k → armadaref05_Same.l0 k l m (i : Int) = some (sameB (l.drop i) (m.drop i))
  | 0, _, _, h => absurd h (by omega)
  | k + 1, i, hi, h => by
    rw [armadaref05_Same.l0]
    cases hd : l.drop i with
    | nil =>
      have := List.drop_eq_nil_iff.1 hd
      rw [if_neg (by omega), List.drop_eq_nil_iff.2 (by omega)]; rfl
    | cons x r =>
      obtain ⟨h1, h2, h3⟩ := rdF_drop hd
      cases he : m.drop i with
      | nil => have := List.drop_eq_nil_iff.1 he; omega
      | cons y s =>
        obtain ⟨g1, g2, g3⟩ := rdF_drop he
        rw [if_pos (by omega), if_pos (by omega), if_pos (by omega), h1, g1, sameB]
        have ih := rsame_l0 l m hl hm k (i + 1) (by omega) (by omega)
        rw [h3, g3] at ih
        rw [up1 i _ h2 hl, ih]
        unfold eqF
        cases (x.f0.toList == y.f0.toList) <;> cases (x.f1.toList == y.f1.toList) <;> rfl
theorem rsame_f (l m : List S49) (hl : l.length ≤ 9223372036854775807) (k : Nat) (hk : l.length < k) : armadaref05_Same.f k l m = some (sameB l m) := by
  unfold armadaref05_Same.f
  by_cases h : l.length = m.length
  · rw [if_pos (by omega)]
    exact rsame_l0 l m hl h k 0 (Nat.zero_le _) (by omega)
  · rw [if_neg (by omega)]
    congr 1
    symm
    rw [Bool.eq_false_iff]
    intro c
    exact h (by rw [(sameB_iff l m).1 c])
theorem psame_l0 (l m : List S49) (hl : l.length ≤ 9223372036854775807) (hm : l.length = m.length) : ∀ (k i : Nat), i ≤ l.length → l.length - i < k → api_File_36.l0 k l m (l.length : Int) (i : Int) = some (sameB (l.drop i) (m.drop i))
  | 0, _, _, h => absurd h (by omega)
  | k + 1, i, hi, h => by
    rw [api_File_36.l0]
    cases hd : l.drop i with
    | nil =>
      have := List.drop_eq_nil_iff.1 hd
      rw [if_neg (by omega), List.drop_eq_nil_iff.2 (by omega)]; rfl
    | cons x r =>
      obtain ⟨h1, h2, h3⟩ := rdF_drop hd
      cases he : m.drop i with
      | nil => have := List.drop_eq_nil_iff.1 he; omega
      | cons y s =>
        obtain ⟨g1, g2, g3⟩ := rdF_drop he
        rw [if_pos (by omega), if_pos (by omega), if_pos (by omega), if_pos (by omega), h1, g1, sameB]
        have ih := psame_l0 l m hl hm k (i + 1) (by omega) (by omega)
        rw [h3, g3] at ih
        rw [up1 i _ h2 hl, ih]
        unfold eqF
        cases (x.f0.toList == y.f0.toList) <;> cases (x.f1.toList == y.f1.toList) <;> rfl
theorem same_f (l m : List S49) (hl : l.length ≤ 9223372036854775807) (k : Nat) (hk : l.length < k) : files_Same.f k l m = some (sameB l m) := by
  unfold files_Same.f api_File_36.f
  by_cases h : l.length = m.length
  · rw [if_pos (by omega), show (0 : Int) = ((0 : Nat) : Int) from rfl, psame_l0 l m hl h k 0 (Nat.zero_le _) (by omega)]; rfl
  · rw [if_neg (by omega)]
    show some false = _
    congr 1
    symm
    rw [Bool.eq_false_iff]
    intro c
    exact h (by rw [(sameB_iff l m).1 c])
end Go.Proofs.YtnhhbmekjoanbaaDoor.P
set_option linter.unusedVariables false
set_option linter.unusedSimpArgs false
namespace Go.Proofs.YtnhhbmekjoanbaaDoor.Op
open Go.RowKit Go.Deep Go.ChangeShapes Go.WideShapes Go.Proofs.YtnhhbmekjoanbaaDoorW.PrintWords Go.Proofs.YtnhhbmekjoanbaaDoorW.PrintLast Go.Proofs.YtnhhbmekjoanbaaDoorW.PrintMore
/-- No row and no text in it weighs more than what can be reached. -/
def Light {H : Type} (P : Program) (t : TypeId) (d : DataW H) : Prop := ∀ n ∈ d.weights P t, n ≤ reachBytes
theorem Light.each {H : Type} {P : Program} : ∀ {ts : List TypeId} {ds : List (DataW H)}, (∀ n ∈ DataW.weightsEach P ts ds, n ≤ reachBytes) → ∀ (j : Nat) {t : TypeId} {d : DataW H}, ts[j]? = some t → ds[j]? = some d → Light P t d :=
  fun h _ _ _ ht hd n hn => h n (DataW.weights_mem_each ht hd n hn)
theorem Light.all {H : Type} {P : Program} {e : TypeId} : ∀ {ds : List (DataW H)}, (∀ n ∈ DataW.weightsAll P e ds, n ≤ reachBytes) → ∀ (j : Nat) {d : DataW H}, ds[j]? = some d → Light P e d
  | [], _, j, d, hd => by simp at hd
  | x :: r, h, 0, d, hd => by
    obtain rfl : x = d := by simpa using hd
    intro n hn
    exact h n (by simp only [DataW.weightsAll, List.mem_append]; exact .inl hn)
  | x :: r, h, j + 1, d, hd => Light.all (ds := r) (fun n hn => h n (by simp only [DataW.weightsAll, List.mem_append]; exact .inr hn)) j (by simpa using hd)
/-- How cells of a type read. -/
structure Cdc (P : Program) (t : TypeId) (α : Type) where
  sz : Nat
  K : World → α → List Value → Prop
  hsz : P.cellsOf t = sz
  len : ∀ {w a cs}, K w a cs → cs.length = sz
  opens : ∀ {H : Type} {enc : TypeId × Value → H} {w : World} {base : Nat} {spare : Nat → Bool} {held : Bool} {fuel : Nat} {cs : List Value} {x : DataW H × List MemPlace},
    DataW.trod enc P w base spare held fuel t cs = some x → Light P t x.1 → ∃ a, K w a cs
def Cdc.int {P : Program} {t : TypeId} {k : IntKind} (ht : P.underlying t = some (.int k)) (hc : P.cellsOf t = 1) : Cdc P t Int where
  sz := 1
  K := fun _ a cs => cs = [.int k a] ∧ (Lit.int k a).wf = true
  hsz := hc
  len := fun h => by rw [h.1]; rfl
  opens := fun h _ => by
    obtain ⟨n, h1, _, h2⟩ := DataW.trod_int ht h
    exact ⟨n, h1, h2⟩
def Cdc.bool {P : Program} {t : TypeId} (ht : P.underlying t = some .bool) (hc : P.cellsOf t = 1) : Cdc P t Bool where
  sz := 1
  K := fun _ a cs => cs = [.bool a]
  hsz := hc
  len := fun h => by rw [h]; rfl
  opens := fun h _ => by
    obtain ⟨n, h1, _⟩ := DataW.trod_bool ht h
    exact ⟨n, h1⟩
def Cdc.slice {P : Program} {t te : TypeId} {α : Type} (ht : P.underlying t = some (.slice te)) (hc : P.cellsOf t = 1) (e : Cdc P te α) : Cdc P t (Option Addr × Nat × List α) where
  sz := 1
  K := fun w a cs => cs = [.slice a.1 a.2.2.length a.2.1] ∧ a.2.2.length ≤ a.2.1 ∧ ReadsRow (e.K w) e.sz w a.1 a.2.2.length a.2.2
  hsz := hc
  len := fun h => by rw [h.1]; rfl
  opens := fun {H enc w base spare held fuel cs x} h hw => by
    rcases DataW.trod_slice ht h with ⟨rfl, _⟩ | ⟨a, len, cap, elems, rest, n, _, rfl, hx, hb, hl, hm, hlen, hel, _, _⟩
    · exact ⟨(none, 0, []), rfl, Nat.le_refl _, rfl, Nat.zero_le _, fun h => by cases h⟩
    · subst hx
      have hwe : ∀ n ∈ DataW.weightsAll P te (elems.map (·.1)), n ≤ reachBytes := fun n hn => hw n (by simp only [DataW.weights, ht, List.mem_cons, List.mem_append]; exact .inr (.inl hn))
      have each : ∀ i, i < len → ∃ y, ∃ c, c.length = e.sz ∧ e.K w y c ∧ ∀ j u, c[j]? = some u → w.cell? (a.add (i * e.sz + j)) = some u := by
        intro i hi
        have h1 := hel i hi
        have hi' : i < elems.length := by omega
        rw [List.getElem?_eq_getElem hi', Option.bind_eq_some_iff] at h1
        obtain ⟨c, hcs, hy⟩ := h1
        obtain ⟨_, hcl, hat⟩ := World.cells?_some hcs
        obtain ⟨y, hK⟩ := e.opens hy (Light.all hwe i (by rw [List.getElem?_map, List.getElem?_eq_getElem hi']; rfl))
        refine ⟨y, c, e.len hK, hK, fun j u hu => ?_⟩
        have hj : j < c.length := (List.getElem?_eq_some_iff.1 hu).1
        rw [← Deep.add_add, ← e.hsz, hat j (by omega), hu]
      have big : ∀ m, m ≤ len → ∃ l : List α, l.length = m ∧ ∀ i p, l[i]? = some p → ∃ c, c.length = e.sz ∧ e.K w p c ∧ ∀ j u, c[j]? = some u → w.cell? (a.add (i * e.sz + j)) = some u := by
        intro m
        induction m with
        | zero => intro _; exact ⟨[], rfl, fun i p h => by simp at h⟩
        | succ m ih =>
          intro hm2
          obtain ⟨l, h1, h2⟩ := ih (by omega)
          obtain ⟨y, hy⟩ := each m (by omega)
          refine ⟨l ++ [y], by simp [h1], fun i p hp => ?_⟩
          rcases Nat.lt_or_ge i l.length with hi | hi
          · rw [List.getElem?_append_left hi] at hp
            exact h2 i p hp
          · have hi2 : i = m := by
              have := (List.getElem?_eq_some_iff.1 hp).1
              rw [List.length_append, List.length_singleton] at this
              omega
            subst hi2
            rw [List.getElem?_append_right (by omega)] at hp
            have : y = p := by simpa [h1] using hp
            subst this
            exact hy
      obtain ⟨l, h1, h2⟩ := big len (Nat.le_refl _)
      subst h1
      exact ⟨(some a, cap, l), rfl, hl, rfl, by unfold maxLen at hm; show l.length ≤ _; omega, fun _ => ⟨a, rfl, h2⟩⟩
/-- The fields of a struct, from an offset on. -/
structure Fl (P : Program) (fs : List Field) (off : Nat) (α : Type) where
  sz : Nat
  K : World → α → List Value → Prop
  len : ∀ {w a cs}, K w a cs → cs.length = sz
  opens : ∀ {H : Type} {enc : TypeId × Value → H} {w : World} {base : Nat} {spare : Nat → Bool} {held : Bool} {n : Nat} {cs : List Value} {xs : List (DataW H × List MemPlace)}, xs.length = fs.length → cs.length = off + sz → (∀ n ∈ DataW.weightsEach P (fs.map (·.type)) (xs.map (·.1)), n ≤ reachBytes) →
    (∀ (i : Nat) (f : Field), fs[i]? = some f → DataW.trod enc P w base spare held n f.type ((cs.drop f.offset).take (P.cellsOf f.type)) = xs[i]?) → ∃ a, K w a (cs.drop off)
def Fl.nil {P : Program} {off : Nat} : Fl P [] off Unit where
  sz := 0
  K := fun _ _ cs => cs = []
  len := fun h => by rw [h]; rfl
  opens := fun _ h _ _ => ⟨(), by rw [List.drop_eq_nil_iff]; omega⟩
def Fl.cons {P : Program} {f : Field} {fs : List Field} {off : Nat} {α β : Type} (c : Cdc P f.type α) (ho : f.offset = off) (r : Fl P fs (off + c.sz) β) : Fl P (f :: fs) off (α × β) where
  sz := c.sz + r.sz
  K := fun w a cs => ∃ c0 c1, cs = c0 ++ c1 ∧ c.K w a.1 c0 ∧ r.K w a.2 c1
  len := fun ⟨c0, c1, h, h0, h1⟩ => by rw [h, List.length_append, c.len h0, r.len h1]
  opens := fun {H enc w base spare held n cs xs} hx hl hw h => by
    match xs, hx with
    | x :: xs, hx =>
      simp only [List.map_cons, DataW.weightsEach, List.mem_append] at hw
      have h0 := h 0 f rfl
      rw [List.getElem?_cons_zero] at h0
      obtain ⟨a, ha⟩ := c.opens h0 (fun n hn => hw n (.inl hn))
      obtain ⟨b, hb⟩ := r.opens (cs := cs) (xs := xs) (by simpa using hx) (by omega) (fun n hn => hw n (.inr hn)) (fun i g hg => by simpa using h (i + 1) g (by simpa using hg))
      refine ⟨(a, b), _, _, ?_, ha, hb⟩
      rw [c.hsz, ho, ← List.drop_drop, List.take_append_drop]
def Cdc.struct {P : Program} {t : TypeId} {α : Type} {fs : Array Field} (ht : P.underlying t = some (.struct fs)) (r : Fl P fs.toList 0 α) (hc : P.cellsOf t = r.sz) : Cdc P t α where
  sz := r.sz
  K := r.K
  hsz := hc
  len := r.len
  opens := fun {H enc w base spare held fuel cs x} h hw => by
    obtain ⟨xs, n, _, hx, hl, hxl, hf⟩ := DataW.trod_struct ht h
    subst hx
    obtain ⟨a, ha⟩ := r.opens (xs := xs) (by simpa using hxl) (by omega) (fun n hn => hw n (by simp only [DataW.weights, ht]; exact hn)) (fun i f hi => hf i f (by simpa using hi))
    exact ⟨a, by simpa using ha⟩
/-- The same cells, read as another kind of thing. -/
def Cdc.map {P : Program} {t : TypeId} {α β : Type} (e : Cdc P t α) (f : α → β) : Cdc P t β where
  sz := e.sz
  K := fun w b cs => ∃ a, b = f a ∧ e.K w a cs
  hsz := e.hsz
  len := fun ⟨_, _, h⟩ => e.len h
  opens := fun h hw => by
    obtain ⟨a, ha⟩ := e.opens h hw
    exact ⟨f a, a, rfl, ha⟩
end Go.Proofs.YtnhhbmekjoanbaaDoor.Op
namespace Go.Proofs.YtnhhbmekjoanbaaDoor.P
open Go.RowKit Go.Proofs.YtnhhbmekjoanbaaDoorW.PrintWords Go.Proofs.YtnhhbmekjoanbaaDoorW.PrintLast Go.Proofs.YtnhhbmekjoanbaaDoorW.PrintMore
set_option linter.unusedVariables false
abbrev lt8 (a b : ByteArray) : Prop := a.data.toList < b.data.toList
theorem lt8_irr (a : ByteArray) : ¬ lt8 a a := List.lt_irrefl _
theorem lt8_trans {a b c : ByteArray} (h : lt8 a b) (g : lt8 b c) : lt8 a c := List.lt_trans h g
theorem lt8_tri {a b : ByteArray} (h : ¬ lt8 a b) (g : ¬ lt8 b a) : a = b := ByteArray.ext (Array.toList_inj.mp (List.le_antisymm (List.not_lt.1 g) (List.not_lt.1 h)))
theorem less_lt (a b : ByteArray) : Op.bytesLess a.toList b.toList = decide (lt8 a b) := by
  rw [Go.Proofs.bytesLess_eq, ByteArray.toList_eq, ByteArray.toList_eq]
/-- Files rise by their paths. -/
def Asc (l : List S49) : Prop := l.Pairwise (fun x y => lt8 x.f0 y.f0)
def okF (x : S49) : Prop := pathB x.f0 = true ∧ x.f1.size ≤ 4096
theorem rise_iff : ∀ (l : List S49) (last : ByteArray), riseB last l = true ↔ (Asc l ∧ (∀ x ∈ l, okF x) ∧ ∀ x ∈ l, lt8 last x.f0)
  | [], last => by simp [riseB, Asc]
  | x :: r, last => by
    rw [riseB, less_lt]
    simp only [Bool.and_eq_true, decide_eq_true_eq]
    rw [rise_iff r x.f0]
    constructor
    · rintro ⟨h1, h2, h3, h4, h5, h6⟩
      refine ⟨List.pairwise_cons.2 ⟨h6, h4⟩, ?_, ?_⟩
      · intro y hy
        rcases List.mem_cons.1 hy with rfl | hy
        · exact ⟨h1, h2⟩
        · exact h5 y hy
      · intro y hy
        rcases List.mem_cons.1 hy with rfl | hy
        · exact h3
        · exact lt8_trans h3 (h6 y hy)
    · rintro ⟨h1, h2, h3⟩
      obtain ⟨g1, g2⟩ := List.pairwise_cons.1 h1
      exact ⟨(h2 x List.mem_cons_self).1, (h2 x List.mem_cons_self).2, h3 x List.mem_cons_self, g2, fun y hy => h2 y (List.mem_cons_of_mem _ hy), g1⟩
theorem pathB_ne' {s : ByteArray} (h : pathB s = true) : lt8 ⟨#[]⟩ s := by
  cases hl : s.data.toList with
  | nil =>
    have e : s = ⟨#[]⟩ := ByteArray.ext (Array.toList_inj.mp hl)
    subst e
    exact absurd h (by decide +kernel)
  | cons x r =>
    show ([] : List UInt8) < s.data.toList
    rw [hl]
    exact List.nil_lt_cons x r
theorem may_iff (l : List S49) : mayB l = true ↔ (l.length ≤ 40 ∧ Asc l ∧ ∀ x ∈ l, okF x) := by
  unfold mayB
  rw [Bool.and_eq_true, decide_eq_true_eq, rise_iff]
  constructor
  · rintro ⟨h1, h2, h3, _⟩; exact ⟨h1, h2, h3⟩
  · rintro ⟨h1, h2, h3⟩; exact ⟨h1, h2, h3, fun x hx => pathB_ne' (h3 x hx).1⟩
theorem asc_get {l : List S49} (h : Asc l) {i j : Nat} (hij : i < j) (hj : j < l.length) : lt8 (l[i]'(by omega)).f0 l[j].f0 := List.pairwise_iff_getElem.1 h i j (by omega) hj hij
theorem binF_spec (l : List S49) (p : ByteArray) (ha : Asc l) : ∀ (k i j : Nat), i ≤ j → j ≤ l.length → j - i ≤ k → (∀ m (hm : m < l.length), m < i → lt8 l[m].f0 p) → (∀ m (hm : m < l.length), j ≤ m → ¬ lt8 l[m].f0 p) →
    (∀ m (hm : m < l.length), m < binF l p k i j → lt8 l[m].f0 p) ∧ (∀ m (hm : m < l.length), binF l p k i j ≤ m → ¬ lt8 l[m].f0 p)
  | 0, i, j, hij, hj, hk, h1, h2 => by
    have : i = j := by omega
    subst this
    exact ⟨h1, h2⟩
  | k + 1, i, j, hij, hj, hk, h1, h2 => by
    rw [binF]
    by_cases h : i < j
    · rw [if_pos h]
      obtain ⟨m, hm⟩ : ∃ m, (i + j) / 2 = m := ⟨_, rfl⟩
      rw [hm]
      have hml : m < l.length := by omega
      rw [rdF_get l m hml]
      by_cases hc : l[m].f0.data.toList < p.data.toList
      · rw [if_pos ((cmpS_lt _ _).2 hc)]
        refine binF_spec l p ha k (m + 1) j (by omega) hj (by omega) ?_ h2
        intro q hq hqm
        by_cases e : q = m
        · subst e; exact hc
        · exact lt8_trans (asc_get ha (show q < m by omega) hml) hc
      · rw [if_neg (fun c => hc ((cmpS_lt _ _).1 c))]
        refine binF_spec l p ha k i m (by omega) (by omega) (by omega) h1 ?_
        intro q hq hqm hlt
        by_cases e : q = m
        · subst e; exact hc hlt
        · exact hc (lt8_trans (asc_get ha (show m < q by omega) hq) hlt)
    · rw [if_neg h]
      have : i = j := by omega
      subst this
      exact ⟨h1, h2⟩
theorem at_split (l : List S49) (p : ByteArray) (ha : Asc l) : (∀ x ∈ l.take (atF p l), lt8 x.f0 p) ∧ (∀ x ∈ l.drop (atF p l), ¬ lt8 x.f0 p) := by
  obtain ⟨h1, h2⟩ := binF_spec l p ha l.length 0 l.length (Nat.zero_le _) (Nat.le_refl _) (by omega) (fun m hm h => by omega) (fun m hm h => by omega)
  have hle := atF_le p l
  constructor
  · intro x hx
    obtain ⟨i, hi, rfl⟩ := List.mem_iff_getElem.1 hx
    rw [List.length_take] at hi
    rw [List.getElem_take]
    exact h1 i (by omega) (by show i < atF p l; omega)
  · intro x hx
    obtain ⟨i, hi, rfl⟩ := List.mem_iff_getElem.1 hx
    rw [List.length_drop] at hi
    rw [List.getElem_drop]
    exact h2 (atF p l + i) (by omega) (Nat.le_add_right _ _)
theorem isF_split (l : List S49) (p : ByteArray) (ha : Asc l) : (isF p l = true ∧ ∃ x r, l.drop (atF p l) = x :: r ∧ x.f0 = p ∧ ∀ y ∈ r, lt8 p y.f0) ∨ (isF p l = false ∧ ∀ y ∈ l.drop (atF p l), lt8 p y.f0) := by
  have hs := at_split l p ha
  unfold isF
  by_cases h : atF p l < l.length
  · rw [decide_eq_true h, Bool.true_and, rdF_get l _ h]
    have hd := List.drop_eq_getElem_cons h
    have hp : (l.drop (atF p l)).Pairwise (fun x y => lt8 x.f0 y.f0) := List.Pairwise.sublist (List.drop_sublist ..) ha
    rw [hd] at hp hs
    obtain ⟨g1, g2⟩ := List.pairwise_cons.1 hp
    by_cases e : cmpS (l[atF p l]).f0 p = 0
    · refine .inl ⟨beq_iff_eq.2 e, _, _, hd, ?_, ?_⟩
      · exact ByteArray.ext (Array.toList_inj.mp ((cb_eq _ _).1 e))
      · intro y hy
        have := g1 y hy
        rwa [show (l[atF p l]).f0 = p from ByteArray.ext (Array.toList_inj.mp ((cb_eq _ _).1 e))] at this
    · refine .inr ⟨beq_eq_false_iff_ne.2 e, ?_⟩
      have hne : (l[atF p l]).f0 ≠ p := fun c => e ((cb_eq _ _).2 (by rw [c]))
      have h0 : lt8 p (l[atF p l]).f0 := Decidable.byContradiction fun c => hne (lt8_tri (hs.2 _ List.mem_cons_self) c)
      rw [hd]
      intro y hy
      rcases List.mem_cons.1 hy with rfl | hy
      · exact h0
      · exact lt8_trans h0 (g1 y hy)
  · rw [decide_eq_false h, Bool.false_and]
    refine .inr ⟨rfl, ?_⟩
    rw [List.drop_eq_nil_iff.2 (by omega)]
    intro y hy; cases hy
/-- Files but that of a path. -/
def outB (p : ByteArray) (l : List S49) : List S49 := l.filter (fun x => !(x.f0.toList == p.toList))
theorem outB_ne {p : ByteArray} : ∀ {l : List S49}, (∀ x ∈ l, x.f0 ≠ p) → outB p l = l
  | [], _ => rfl
  | x :: r, h => by
    have hx : (x.f0.toList == p.toList) = false := beq_eq_false_iff_ne.2 (fun c => h x List.mem_cons_self (tl_eq c))
    have ih := outB_ne (fun y hy => h y (List.mem_cons_of_mem _ hy)) (l := r)
    unfold outB at *
    rw [List.filter_cons_of_pos (by rw [hx]; rfl), ih]
theorem getB_at {p : ByteArray} {x : S49} (hx : x.f0 = p) (post : List S49) : ∀ {pre : List S49}, (∀ y ∈ pre, y.f0 ≠ p) → getB p (pre ++ x :: post) = (x.f1, true)
  | [], _ => by rw [List.nil_append, getB, if_pos (by rw [hx]; exact beq_self_eq_true _)]
  | y :: r, h => by
    rw [List.cons_append, getB, if_neg (fun c => h y List.mem_cons_self (tl_eq (beq_iff_eq.1 c))), getB_at hx post (fun z hz => h z (List.mem_cons_of_mem _ hz))]
theorem ne_of_lt {a b : ByteArray} (h : lt8 a b) : a ≠ b := fun e => lt8_irr b (e ▸ h)
/-- Where a path stands among files that rise. -/
theorem place (l : List S49) (p : ByteArray) (ha : Asc l) :
    (isF p l = true ∧ ∃ pre x post, l = pre ++ x :: post ∧ pre.length = atF p l ∧ x.f0 = p ∧ (∀ y ∈ pre, lt8 y.f0 p) ∧ (∀ y ∈ post, lt8 p y.f0)) ∨
    (isF p l = false ∧ ∃ pre post, l = pre ++ post ∧ pre.length = atF p l ∧ (∀ y ∈ pre, lt8 y.f0 p) ∧ (∀ y ∈ post, lt8 p y.f0)) := by
  have hs := at_split l p ha
  have hle := atF_le p l
  rcases isF_split l p ha with ⟨h1, x, r, h2, h3, h4⟩ | ⟨h1, h2⟩
  · exact .inl ⟨h1, l.take (atF p l), x, r, by rw [← h2, List.take_append_drop], by rw [List.length_take]; omega, h3, hs.1, h4⟩
  · exact .inr ⟨h1, l.take (atF p l), l.drop (atF p l), (List.take_append_drop ..).symm, by rw [List.length_take]; omega, hs.1, h2⟩
end Go.Proofs.YtnhhbmekjoanbaaDoor.P
namespace Go.Proofs.YtnhhbmekjoanbaaDoor.P
open Go.RowKit Go.Proofs.YtnhhbmekjoanbaaDoorW.PrintWords Go.Proofs.YtnhhbmekjoanbaaDoorW.PrintLast Go.Proofs.YtnhhbmekjoanbaaDoorW.PrintMore
set_option linter.unusedVariables false
def goneO (x : S49) : S45 := ⟨true, x.f0, ⟨#[]⟩⟩
def putO (x : S49) : S45 := ⟨false, x.f0, x.f1⟩
/-- Both lists, side by side. -/
def mergeD : Nat → List S49 → List S49 → List S45
  | 0, _, _ => []
  | n + 1, [], [] => []
  | n + 1, x :: a, [] => goneO x :: mergeD n a []
  | n + 1, [], y :: b => putO y :: mergeD n [] b
  | n + 1, x :: a, y :: b =>
    if Op.bytesLess x.f0.toList y.f0.toList = true then goneO x :: mergeD n a (y :: b)
    else if Op.bytesLess y.f0.toList x.f0.toList = true then putO y :: mergeD n (x :: a) b
    else if x.f1.toList = y.f1.toList then mergeD n a b else putO y :: mergeD n a b
def inD (a b : List S49) (o : S45) : Prop := (∃ x ∈ a, o = goneO x ∧ ∀ y ∈ b, y.f0 ≠ x.f0) ∨ (∃ y ∈ b, o = putO y ∧ y ∉ a)
theorem asc_cons {x : S49} {a : List S49} (h : Asc (x :: a)) : (∀ y ∈ a, lt8 x.f0 y.f0) ∧ Asc a := List.pairwise_cons.1 h
theorem mergeD_mem : ∀ (n : Nat) (a b : List S49), a.length + b.length ≤ n → Asc a → Asc b → ∀ o, o ∈ mergeD n a b ↔ inD a b o
  | 0, a, b, h, _, _, o => by
    have ha : a = [] := List.eq_nil_of_length_eq_zero (by omega)
    have hb : b = [] := List.eq_nil_of_length_eq_zero (by omega)
    subst ha; subst hb
    simp [mergeD, inD]
  | n + 1, [], [], _, _, _, o => by simp [mergeD, inD]
  | n + 1, x :: a, [], h, ha, hb, o => by
    have ih := mergeD_mem n a [] (by simp at h ⊢; omega) (asc_cons ha).2 hb o
    rw [mergeD, List.mem_cons, ih]
    simp [inD]
  | n + 1, [], y :: b, h, ha, hb, o => by
    have ih := mergeD_mem n [] b (by simp at h ⊢; omega) ha (asc_cons hb).2 o
    rw [mergeD, List.mem_cons, ih]
    simp [inD]
  | n + 1, x :: a, y :: b, h, ha, hb, o => by
    obtain ⟨ga, ha'⟩ := asc_cons ha
    obtain ⟨gb, hb'⟩ := asc_cons hb
    simp only [List.length_cons] at h
    rw [mergeD, less_lt, less_lt]
    by_cases h1 : lt8 x.f0 y.f0
    · rw [if_pos (decide_eq_true h1), List.mem_cons, mergeD_mem n a (y :: b) (by rw [List.length_cons]; omega) ha' hb o]
      have hx : ∀ z ∈ y :: b, z.f0 ≠ x.f0 := fun z hz => by
        rcases List.mem_cons.1 hz with rfl | hz
        · exact (ne_of_lt h1).symm
        · exact (ne_of_lt (lt8_trans h1 (gb z hz))).symm
      unfold inD
      constructor
      · rintro (rfl | ⟨z, hz, rfl, h2⟩ | ⟨z, hz, rfl, h2⟩)
        · exact .inl ⟨x, List.mem_cons_self, rfl, hx⟩
        · exact .inl ⟨z, List.mem_cons_of_mem _ hz, rfl, h2⟩
        · exact .inr ⟨z, hz, rfl, fun c => (List.mem_cons.1 c).elim (fun e => hx z hz (by rw [e])) h2⟩
      · rintro (⟨z, hz, rfl, h2⟩ | ⟨z, hz, rfl, h2⟩)
        · rcases List.mem_cons.1 hz with rfl | hz
          · exact .inl rfl
          · exact .inr (.inl ⟨z, hz, rfl, h2⟩)
        · exact .inr (.inr ⟨z, hz, rfl, fun c => h2 (List.mem_cons_of_mem _ c)⟩)
    · rw [if_neg (fun c => h1 (of_decide_eq_true c))]
      by_cases h2 : lt8 y.f0 x.f0
      · rw [if_pos (decide_eq_true h2), List.mem_cons, mergeD_mem n (x :: a) b (by rw [List.length_cons]; omega) ha hb' o]
        have hy : ∀ z ∈ x :: a, y.f0 ≠ z.f0 := fun z hz => by
          rcases List.mem_cons.1 hz with rfl | hz
          · exact ne_of_lt h2
          · exact ne_of_lt (lt8_trans h2 (ga z hz))
        unfold inD
        constructor
        · rintro (rfl | ⟨z, hz, rfl, h3⟩ | ⟨z, hz, rfl, h3⟩)
          · exact .inr ⟨y, List.mem_cons_self, rfl, fun c => hy y c rfl⟩
          · exact .inl ⟨z, hz, rfl, fun w hw => (List.mem_cons.1 hw).elim (fun e => by rw [e]; exact hy z hz) (h3 w)⟩
          · exact .inr ⟨z, List.mem_cons_of_mem _ hz, rfl, h3⟩
        · rintro (⟨z, hz, rfl, h3⟩ | ⟨z, hz, rfl, h3⟩)
          · exact .inr (.inl ⟨z, hz, rfl, fun w hw => h3 w (List.mem_cons_of_mem _ hw)⟩)
          · rcases List.mem_cons.1 hz with rfl | hz
            · exact .inl rfl
            · exact .inr (.inr ⟨z, hz, rfl, h3⟩)
      · rw [if_neg (fun c => h2 (of_decide_eq_true c))]
        have hxy : x.f0 = y.f0 := lt8_tri h1 h2
        have hay : ∀ z ∈ a, lt8 y.f0 z.f0 := fun z hz => by rw [← hxy]; exact ga z hz
        have hbx : ∀ z ∈ b, lt8 x.f0 z.f0 := fun z hz => by rw [hxy]; exact gb z hz
        have ih := mergeD_mem n a b (by omega) ha' hb' o
        -- what holds both ways
        have key : (∃ z ∈ a, o = goneO z ∧ ∀ w ∈ b, w.f0 ≠ z.f0) ∨ (∃ z ∈ b, o = putO z ∧ z ∉ a) ↔ (∃ z ∈ x :: a, o = goneO z ∧ ∀ w ∈ y :: b, w.f0 ≠ z.f0) ∨ (∃ z ∈ b, o = putO z ∧ z ∉ x :: a) := by
          constructor
          · rintro (⟨z, hz, h3, h4⟩ | ⟨z, hz, h3, h4⟩)
            · exact .inl ⟨z, List.mem_cons_of_mem _ hz, h3, fun w hw => (List.mem_cons.1 hw).elim (fun e => by rw [e]; exact ne_of_lt (hay z hz)) (h4 w)⟩
            · exact .inr ⟨z, hz, h3, fun c => (List.mem_cons.1 c).elim (fun e => ne_of_lt (hbx z hz) (by rw [e])) h4⟩
          · rintro (⟨z, hz, h3, h4⟩ | ⟨z, hz, h3, h4⟩)
            · rcases List.mem_cons.1 hz with rfl | hz
              · exact absurd hxy.symm (h4 y List.mem_cons_self)
              · exact .inl ⟨z, hz, h3, fun w hw => h4 w (List.mem_cons_of_mem _ hw)⟩
            · exact .inr ⟨z, hz, h3, fun c => h4 (List.mem_cons_of_mem _ c)⟩
        by_cases h5 : x.f1.toList = y.f1.toList
        · rw [if_pos h5, ih]
          have exy : x = y := by
            obtain ⟨x0, x1⟩ := x
            obtain ⟨y0, y1⟩ := y
            dsimp only at hxy h5
            rw [hxy, tl_eq h5]
          unfold inD
          rw [key]
          constructor
          · rintro (h6 | ⟨z, hz, h6⟩)
            · exact .inl h6
            · exact .inr ⟨z, List.mem_cons_of_mem _ hz, h6⟩
          · rintro (h6 | ⟨z, hz, h6, h7⟩)
            · exact .inl h6
            · rcases List.mem_cons.1 hz with rfl | hz
              · exact absurd (by rw [exy]; exact List.mem_cons_self) h7
              · exact .inr ⟨z, hz, h6, h7⟩
        · rw [if_neg h5, List.mem_cons, ih]
          unfold inD
          rw [key]
          have hyn : y ∉ x :: a := fun c => (List.mem_cons.1 c).elim (fun e => h5 (by rw [e])) (fun c => lt8_irr _ (hay y c))
          constructor
          · rintro (rfl | h6 | ⟨z, hz, h6⟩)
            · exact .inr ⟨y, List.mem_cons_self, rfl, hyn⟩
            · exact .inl h6
            · exact .inr ⟨z, List.mem_cons_of_mem _ hz, h6⟩
          · rintro (h6 | ⟨z, hz, h6, h7⟩)
            · exact .inr (.inl h6)
            · rcases List.mem_cons.1 hz with rfl | hz
              · exact .inl h6
              · exact .inr (.inr ⟨z, hz, h6, h7⟩)
def AscO (l : List S45) : Prop := l.Pairwise (fun x y => lt8 x.f1 y.f1)
theorem inD_path {a b : List S49} {o : S45} (h : inD a b o) : (∃ x ∈ a, o.f1 = x.f0) ∨ (∃ y ∈ b, o.f1 = y.f0) := by
  rcases h with ⟨x, hx, rfl, _⟩ | ⟨y, hy, rfl, _⟩
  · exact .inl ⟨x, hx, rfl⟩
  · exact .inr ⟨y, hy, rfl⟩
theorem mergeD_asc : ∀ (n : Nat) (a b : List S49), a.length + b.length ≤ n → Asc a → Asc b → AscO (mergeD n a b)
  | 0, a, b, h, _, _ => by simp [mergeD, AscO]
  | n + 1, [], [], _, _, _ => by simp [mergeD, AscO]
  | n + 1, x :: a, [], h, ha, hb => by
    have hn : a.length + ([] : List S49).length ≤ n := by simp at h ⊢; omega
    rw [mergeD]
    refine List.pairwise_cons.2 ⟨fun o ho => ?_, mergeD_asc n a [] hn (asc_cons ha).2 hb⟩
    rcases inD_path ((mergeD_mem n a [] hn (asc_cons ha).2 hb o).1 ho) with ⟨z, hz, e⟩ | ⟨z, hz, e⟩
    · rw [e]; exact (asc_cons ha).1 z hz
    · cases hz
  | n + 1, [], y :: b, h, ha, hb => by
    have hn : ([] : List S49).length + b.length ≤ n := by simp at h ⊢; omega
    rw [mergeD]
    refine List.pairwise_cons.2 ⟨fun o ho => ?_, mergeD_asc n [] b hn ha (asc_cons hb).2⟩
    rcases inD_path ((mergeD_mem n [] b hn ha (asc_cons hb).2 o).1 ho) with ⟨z, hz, e⟩ | ⟨z, hz, e⟩
    · cases hz
    · rw [e]; exact (asc_cons hb).1 z hz
  | n + 1, x :: a, y :: b, h, ha, hb => by
    obtain ⟨ga, ha'⟩ := asc_cons ha
    obtain ⟨gb, hb'⟩ := asc_cons hb
    simp only [List.length_cons] at h
    rw [mergeD, less_lt, less_lt]
    by_cases h1 : lt8 x.f0 y.f0
    · have hn : a.length + (y :: b).length ≤ n := by rw [List.length_cons]; omega
      rw [if_pos (decide_eq_true h1)]
      refine List.pairwise_cons.2 ⟨fun o ho => ?_, mergeD_asc n a (y :: b) hn ha' hb⟩
      rcases inD_path ((mergeD_mem n a (y :: b) hn ha' hb o).1 ho) with ⟨z, hz, e⟩ | ⟨z, hz, e⟩
      · rw [e]; exact ga z hz
      · rw [e]
        rcases List.mem_cons.1 hz with rfl | hz
        · exact h1
        · exact lt8_trans h1 (gb z hz)
    · rw [if_neg (fun c => h1 (of_decide_eq_true c))]
      by_cases h2 : lt8 y.f0 x.f0
      · have hn : (x :: a).length + b.length ≤ n := by rw [List.length_cons]; omega
        rw [if_pos (decide_eq_true h2)]
        refine List.pairwise_cons.2 ⟨fun o ho => ?_, mergeD_asc n (x :: a) b hn ha hb'⟩
        rcases inD_path ((mergeD_mem n (x :: a) b hn ha hb' o).1 ho) with ⟨z, hz, e⟩ | ⟨z, hz, e⟩
        · rw [e]
          rcases List.mem_cons.1 hz with rfl | hz
          · exact h2
          · exact lt8_trans h2 (ga z hz)
        · rw [e]; exact gb z hz
      · rw [if_neg (fun c => h2 (of_decide_eq_true c))]
        have hxy : x.f0 = y.f0 := lt8_tri h1 h2
        have hn : a.length + b.length ≤ n := by omega
        split
        · exact mergeD_asc n a b hn ha' hb'
        · refine List.pairwise_cons.2 ⟨fun o ho => ?_, mergeD_asc n a b hn ha' hb'⟩
          rcases inD_path ((mergeD_mem n a b hn ha' hb' o).1 ho) with ⟨z, hz, e⟩ | ⟨z, hz, e⟩
          · rw [e]; show lt8 y.f0 z.f0; rw [← hxy]; exact ga z hz
          · rw [e]; exact gb z hz
theorem getB_has {x : S49} {l : List S49} (ha : Asc l) (hx : x ∈ l) : getB x.f0 l = (x.f1, true) := by
  obtain ⟨s, t, rfl⟩ := List.append_of_mem hx
  refine getB_at rfl t (fun y hy => ?_)
  exact ne_of_lt ((List.pairwise_append.1 ha).2.2 y hy x List.mem_cons_self)
theorem getB_true {p : ByteArray} : ∀ {l : List S49}, (getB p l).2 = true → ∃ x ∈ l, x.f0 = p ∧ (getB p l).1 = x.f1
  | [], h => by cases h
  | x :: r, h => by
    rw [getB] at h ⊢
    split at h
    · rename_i h1
      rw [if_pos h1]
      exact ⟨x, List.mem_cons_self, tl_eq (beq_iff_eq.1 h1), rfl⟩
    · rename_i h1
      rw [if_neg h1]
      obtain ⟨y, hy, h2, h3⟩ := getB_true h
      exact ⟨y, List.mem_cons_of_mem _ hy, h2, h3⟩
theorem gone_iff (b : List S49) (hb : Asc b) : ∀ (a : List S49) (o : S45), o ∈ goneB b a ↔ ∃ x ∈ a, o = goneO x ∧ ∀ y ∈ b, y.f0 ≠ x.f0
  | [], o => by simp [goneB]
  | x :: r, o => by
    have hg : (getB x.f0 b).2 = true ↔ ¬ ∀ y ∈ b, y.f0 ≠ x.f0 := by
      constructor
      · intro h c
        obtain ⟨y, hy, h2, _⟩ := getB_true h
        exact c y hy h2
      · intro h
        refine Classical.byContradiction fun c => h (fun y hy e => c ?_)
        rw [← e, getB_has hb hy]
    rw [goneB]
    by_cases h : (getB x.f0 b).2 = true
    · rw [if_pos h, gone_iff b hb r o]
      constructor
      · rintro ⟨z, hz, h2⟩; exact ⟨z, List.mem_cons_of_mem _ hz, h2⟩
      · rintro ⟨z, hz, h2, h3⟩
        rcases List.mem_cons.1 hz with rfl | hz
        · exact absurd h3 (hg.1 h)
        · exact ⟨z, hz, h2, h3⟩
    · rw [if_neg h, List.mem_cons, gone_iff b hb r o]
      constructor
      · rintro (rfl | ⟨z, hz, h2⟩)
        · exact ⟨x, List.mem_cons_self, rfl, Classical.byContradiction fun c => h (hg.2 c)⟩
        · exact ⟨z, List.mem_cons_of_mem _ hz, h2⟩
      · rintro ⟨z, hz, h2, h3⟩
        rcases List.mem_cons.1 hz with rfl | hz
        · exact .inl h2
        · exact .inr ⟨z, hz, h2, h3⟩
theorem put_iff (a : List S49) (ha : Asc a) : ∀ (b : List S49) (o : S45), o ∈ putB a b ↔ ∃ y ∈ b, o = putO y ∧ y ∉ a
  | [], o => by simp [putB]
  | x :: r, o => by
    have hg : ((getB x.f0 a).2 = true ∧ ((getB x.f0 a).1.toList == x.f1.toList) = true) ↔ x ∈ a := by
      constructor
      · rintro ⟨h1, h2⟩
        obtain ⟨y, hy, h3, h4⟩ := getB_true h1
        rw [h4] at h2
        have : y = x := by
          obtain ⟨y0, y1⟩ := y
          obtain ⟨x0, x1⟩ := x
          dsimp only at h3 h2
          rw [h3, tl_eq (beq_iff_eq.1 h2)]
        rw [← this]; exact hy
      · intro h
        rw [getB_has ha h]
        exact ⟨rfl, beq_self_eq_true _⟩
    rw [putB]
    by_cases h : x ∈ a
    · rw [if_pos (hg.2 h), put_iff a ha r o]
      constructor
      · rintro ⟨z, hz, h2⟩; exact ⟨z, List.mem_cons_of_mem _ hz, h2⟩
      · rintro ⟨z, hz, h2, h3⟩
        rcases List.mem_cons.1 hz with rfl | hz
        · exact absurd h h3
        · exact ⟨z, hz, h2, h3⟩
    · rw [if_neg (fun c => h (hg.1 c)), List.mem_cons, put_iff a ha r o]
      constructor
      · rintro (rfl | ⟨z, hz, h2⟩)
        · exact ⟨x, List.mem_cons_self, rfl, h⟩
        · exact ⟨z, List.mem_cons_of_mem _ hz, h2⟩
      · rintro ⟨z, hz, h2, h3⟩
        rcases List.mem_cons.1 hz with rfl | hz
        · exact .inl h2
        · exact .inr ⟨z, hz, h2, h3⟩
theorem ascO_nodup {l : List S45} (h : AscO l) : l.Nodup := by
  refine List.Pairwise.imp ?_ h
  intro x y hxy e
  subst e
  exact lt8_irr _ hxy
theorem gone_asc (b : List S49) (hb : Asc b) : ∀ (a : List S49), Asc a → AscO (goneB b a)
  | [], _ => by simp [goneB, AscO]
  | x :: r, ha => by
    obtain ⟨g1, g2⟩ := asc_cons ha
    rw [goneB]
    split
    · exact gone_asc b hb r g2
    · refine List.pairwise_cons.2 ⟨fun o ho => ?_, gone_asc b hb r g2⟩
      obtain ⟨z, hz, rfl, _⟩ := (gone_iff b hb r o).1 ho
      exact g1 z hz
theorem put_asc (a : List S49) (ha : Asc a) : ∀ (b : List S49), Asc b → AscO (putB a b)
  | [], _ => by simp [putB, AscO]
  | x :: r, hb => by
    obtain ⟨g1, g2⟩ := asc_cons hb
    rw [putB]
    split
    · exact put_asc a ha r g2
    · refine List.pairwise_cons.2 ⟨fun o ho => ?_, put_asc a ha r g2⟩
      obtain ⟨z, hz, rfl, _⟩ := (put_iff a ha r o).1 ho
      exact g1 z hz
/-- The difference of two rows of files. -/
def diffD (a b : List S49) : List S45 := if (mayB a && mayB b) = true then mergeD (a.length + b.length) a b else []
theorem diff_f (a b : List S49) : files_Diff.f a b = some (diffD a b) := by
  unfold files_Diff.f diffD
  by_cases h : (mayB a && mayB b) = true
  · rw [if_pos h, if_pos h]
    obtain ⟨hma, hmb⟩ := Bool.and_eq_true_iff.1 h
    have ha := ((may_iff a).1 hma).2.1
    have hb := ((may_iff b).1 hmb).2.1
    have hasc := mergeD_asc (a.length + b.length) a b (Nat.le_refl _) ha hb
    congr 1
    symm
    refine ord_one (diff_apart a b hmb) ?_ ?_
    · rw [List.perm_ext_iff_of_nodup (ascO_nodup hasc)]
      · intro o
        rw [mergeD_mem _ a b (Nat.le_refl _) ha hb, List.mem_append, gone_iff b hb, put_iff a ha]
        exact Iff.rfl
      · rw [List.nodup_append]
        refine ⟨ascO_nodup (gone_asc b hb a ha), ascO_nodup (put_asc a ha b hb), ?_⟩
        intro x hx y hy e
        obtain ⟨p, _, rfl, _⟩ := (gone_iff b hb a x).1 hx
        obtain ⟨q, _, rfl, _⟩ := (put_iff a ha b y).1 hy
        exact absurd (congrArg (·.f0) e) (by simp [goneO, putO])
    · refine hasc.imp ?_
      intro x y hxy c
      rw [cmpS_lt] at c
      exact lt8_irr _ (lt8_trans hxy c)
  · rw [if_neg h, if_neg h]
end Go.Proofs.YtnhhbmekjoanbaaDoor.P
namespace Go.Proofs.YtnhhbmekjoanbaaDoor.P
open Go.RowKit Go.Proofs.YtnhhbmekjoanbaaDoorW.PrintWords Go.Proofs.YtnhhbmekjoanbaaDoorW.PrintLast Go.Proofs.YtnhhbmekjoanbaaDoorW.PrintMore
set_option linter.unusedVariables false
def lv : List S49 := [⟨⟨#[97, 47, 120]⟩, ⟨#[49]⟩⟩, ⟨⟨#[98]⟩, ⟨#[51]⟩⟩]
def lvO : List S45 := [⟨false, ⟨#[98]⟩, ⟨#[50, 50]⟩⟩, ⟨true, ⟨#[97]⟩, ⟨#[]⟩⟩]
def lvS : ByteArray := ⟨#[0, 1, 98, 0, 2, 50, 50, 1, 1, 97]⟩
theorem lv1 : files_Apply.f [] [⟨false, ⟨#[98]⟩, ⟨#[50]⟩⟩, ⟨false, ⟨#[97, 47, 120]⟩, ⟨#[49]⟩⟩, ⟨false, ⟨#[98]⟩, ⟨#[51]⟩⟩] = some (lv, 0) := by kernel_rfl
theorem lv2 : files_Apply.f lv [⟨true, ⟨#[99]⟩, ⟨#[]⟩⟩] = some ([], 5) := by kernel_rfl
theorem lv3 : files_Apply.f lv [⟨false, ⟨#[97, 47, 47, 98]⟩, ⟨#[]⟩⟩] = some ([], 6) := by kernel_rfl
theorem lv4 : files_Encode.f [⟨false, ⟨#[98]⟩, ⟨#[50, 50]⟩⟩, ⟨true, ⟨#[97]⟩, ⟨#[]⟩⟩] = some (lvS, 0) := by kernel_rfl
theorem lv5 : files_Decode.f lvS = some (lvO, 0) := by kernel_rfl
theorem lv6 : files_Decode.f (lvS ++ ⟨#[122]⟩) = some ([], 1) := by kernel_rfl
theorem lv7 : files_Get.f lv ⟨#[98]⟩ = some (⟨#[51]⟩, true) := by kernel_rfl
theorem lv8 : files_Diff.f lv [⟨⟨#[98]⟩, ⟨#[51]⟩⟩] = some [⟨true, ⟨#[97, 47, 120]⟩, ⟨#[]⟩⟩] := by rw [diff_f]; kernel_rfl
theorem lv9 : files_Path.f ⟨#[97, 47, 98, 46, 103, 111]⟩ = some true := by kernel_rfl
theorem lv10 : files_Path.f ⟨#[97, 47, 46, 46]⟩ = some false := by kernel_rfl
theorem lv11 : files_Path.f ⟨#[]⟩ = some false := by kernel_rfl
theorem lv12 : mayB lv = true := by kernel_rfl
theorem live_f (k : Nat) (hk : 100 ≤ k) : armadalaw05_live.f k = some true := by
  obtain ⟨k, rfl⟩ : ∃ k', k = k' + 1 := ⟨k - 1, by omega⟩
  unfold armadalaw05_live.f
  rw [lv1, Option.bind_some, lv2, Option.bind_some, lv3, Option.bind_some, lv4, Option.bind_some, lv5, Option.bind_some, if_pos (by decide), lv6, Option.bind_some, lv7, Option.bind_some, if_pos (by decide)]
  rw [armadalaw05_live.j0, if_neg (by decide), lv8, Option.bind_some, if_pos (by decide), if_pos (by decide), if_pos (by decide), if_pos (by decide), if_pos (by decide), if_pos (by decide), if_pos (by rw [ByteArray.toList_eq]), if_pos (by decide), if_pos (by rw [ByteArray.toList_eq]; rfl), if_pos (by decide)]
  rw [show rd_T45 (lvO, (0 : Int)).1 1 = ⟨true, ⟨#[97]⟩, ⟨#[]⟩⟩ from rfl, show rd_T45 [(⟨true, ⟨#[97, 47, 120]⟩, ⟨#[]⟩⟩ : S45)] 0 = ⟨true, ⟨#[97, 47, 120]⟩, ⟨#[]⟩⟩ from rfl,
    if_pos (by simp only [ByteArray.toList_eq]; decide), if_pos (by decide), if_pos (by decide), if_pos (by simp only [ByteArray.toList_eq]; decide), lv9, Option.bind_some, if_pos rfl, lv10, Option.bind_some, if_neg (by decide), lv11, Option.bind_some, if_neg (by decide)]
  rw [may_f lv k (by omega), Option.bind_some, if_pos lv12, same_f lv lv (by decide) k (by show 2 < k; omega), Option.bind_some, if_pos ((sameB_iff _ _).2 rfl), same_f lv [] (by decide) k (by show 2 < k; omega)]
  rfl
end Go.Proofs.YtnhhbmekjoanbaaDoor.P
set_option linter.unusedVariables false
set_option linter.unusedSimpArgs false
namespace Go.Proofs.YtnhhbmekjoanbaaDoor.P
open Go.RowKit Go.Proofs.YtnhhbmekjoanbaaDoorW.PrintWords Go.Proofs.YtnhhbmekjoanbaaDoorW.PrintLast Go.Proofs.YtnhhbmekjoanbaaDoorW.PrintMore
theorem ext_right (a b : ByteArray) (p q : Nat) : (a ++ b).extract (a.size + p) (a.size + q) = b.extract p q := by
  apply tl_inj
  have hz : a.data.toList.length = a.size := by rw [Array.length_toList]; rfl
  rw [ByteArray.data_extract, ByteArray.data_extract, ByteArray.data_append, Array.toList_extract, Array.toList_extract, Array.toList_append, List.extract_eq_take_drop, List.extract_eq_take_drop, List.drop_append, List.drop_of_length_le (by omega), List.nil_append]
  congr 1
  · omega
  · congr 1; omega
theorem sp_right (c : Int) (a b : ByteArray) : ∀ (n fr i : Nat), n + i = b.size → sp c (a ++ b) n (a.size + fr) (a.size + i) = sp c b n fr i
  | 0, fr, i, h => by
    rw [sp, sp, ByteArray.size_append, ext_right]
  | n + 1, fr, i, h => by
    rw [sp, sp, bt_right a b i (by omega), ext_right, show a.size + i + 1 = a.size + (i + 1) by omega, sp_right c a b n (i + 1) (i + 1) (by omega), sp_right c a b n fr (i + 1) (by omega)]
theorem sp_left (c : Int) (a b : ByteArray) (hb : 0 < b.size) (h0 : bt b 0 = c) : ∀ (n fr i : Nat), n + i = a.size → sp c (a ++ b) (n + b.size) fr i = sp c a n fr i ++ sp c b (b.size - 1) 1 1
  | 0, fr, i, h => by
    have hi : i = a.size := by omega
    subst hi
    obtain ⟨m, hm⟩ : ∃ m, b.size = m + 1 := ⟨b.size - 1, by omega⟩
    have e := bt_right a b 0 (by omega)
    rw [Nat.add_zero] at e
    have hs := sp_right c a b m 1 1 (by omega)
    have h1 : sp c (a ++ b) (m + 1) fr a.size = (a ++ b).extract fr a.size :: sp c (a ++ b) m (a.size + 1) (a.size + 1) := by rw [sp, if_pos (by rw [e]; exact h0)]
    rw [Nat.zero_add, hm, h1, hs, ext_left a b fr a.size (Nat.le_refl _), sp]
    rfl
  | n + 1, fr, i, h => by
    rw [show n + 1 + b.size = n + b.size + 1 by omega, sp, sp, bt_left a b i (by omega), ext_left a b fr i (by omega), sp_left c a b hb h0 n (i + 1) (i + 1) (by omega), sp_left c a b hb h0 n fr (i + 1) (by omega)]
    split <;> rfl
theorem spl_join (a b : ByteArray) : spl 47 (a ++ ⟨#[47]⟩ ++ b) = spl 47 a ++ spl 47 b := by
  rw [ByteArray.append_assoc, spl_sp, spl_sp, spl_sp]
  have hb : (⟨#[47]⟩ ++ b : ByteArray).size = b.size + 1 := by rw [ByteArray.size_append]; show 1 + _ = _; omega
  have h0 : bt (⟨#[47]⟩ ++ b : ByteArray) 0 = ((47 : UInt8).toNat : Int) := by
    have h := bt_left ⟨#[47]⟩ b 0 (by decide)
    rw [show (0 : Int) = ((0 : Nat) : Int) from rfl, h]; rfl
  have h1 := sp_left ((47 : UInt8).toNat : Int) a (⟨#[47]⟩ ++ b) (by omega) h0 a.size 0 0 (by omega)
  rw [ByteArray.size_append, h1, hb, show b.size + 1 - 1 = b.size by omega]
  congr 1
  exact sp_right ((47 : UInt8).toNat : Int) ⟨#[47]⟩ b b.size 0 0 (by omega)
theorem join_size (a b : ByteArray) : (a ++ ⟨#[47]⟩ ++ b).size = a.size + 1 + b.size := by rw [ByteArray.size_append, ByteArray.size_append]; rfl
theorem pathB_join (a b : ByteArray) : pathB (a ++ ⟨#[47]⟩ ++ b) = (decide (a.size + 1 + b.size ≤ 60) && ((spl 47 a).all partB && (spl 47 b).all partB)) := by
  unfold pathB
  rw [spl_join, List.all_append, join_size]
theorem pathB_tail (a : ByteArray) : pathB (a ++ ⟨#[47]⟩) = false := by
  have h := pathB_join a ⟨#[]⟩
  rw [show a ++ ⟨#[47]⟩ ++ (⟨#[]⟩ : ByteArray) = a ++ ⟨#[47]⟩ from ByteArray.append_empty] at h
  rw [h, show (spl 47 ⟨#[]⟩).all partB = false by kernel_rfl, Bool.and_false, Bool.and_false]
theorem pathB_head (a : ByteArray) : pathB (⟨#[47]⟩ ++ a) = false := by
  have h := pathB_join ⟨#[]⟩ a
  rw [show (⟨#[]⟩ : ByteArray) ++ ⟨#[47]⟩ = ⟨#[47]⟩ from ByteArray.empty_append] at h
  rw [h, show (spl 47 ⟨#[]⟩).all partB = false by kernel_rfl, Bool.false_and, Bool.and_false]
end Go.Proofs.YtnhhbmekjoanbaaDoor.P
namespace Go.Proofs.YtnhhbmekjoanbaaDoor.Pure
open Go.RowKit Go.Proofs.YtnhhbmekjoanbaaDoorW.PrintWords Go.Proofs.YtnhhbmekjoanbaaDoorW.PrintLast Go.Proofs.YtnhhbmekjoanbaaDoorW.PrintMore Go.Proofs.YtnhhbmekjoanbaaDoor.P
theorem path_f (s : ByteArray) : files_Path.f s = some (pathB s) := rfl
theorem j3 (k : Nat) (a : ByteArray) (ha : a.size ≤ 200) (hk : 100 ≤ k) : armadalaw05_FilesParts.j3 (k + 1) a false = some true := by
  rw [armadalaw05_FilesParts.j3, if_neg (by decide), if_pos (by omega), path_f, pathB_tail, Option.bind_some, if_neg (by decide), if_pos (by omega), path_f, pathB_head, Option.bind_some, if_neg (by decide), live_f k hk]
  rfl
theorem j2 (k : Nat) (a b : ByteArray) (ha : a.size ≤ 200) (hb : b.size ≤ 200) (hk : 101 ≤ k) : armadalaw05_FilesParts.j2 (k + 1) a b false = some true := by
  obtain ⟨k, rfl⟩ : ∃ k', k = k' + 1 := ⟨k - 1, by omega⟩
  have hs : (a ++ (⟨#[47]⟩ : ByteArray)).size = a.size + 1 := by rw [ByteArray.size_append]; rfl
  rw [armadalaw05_FilesParts.j2, if_neg (by decide), if_pos (by omega), if_pos (by rw [hs]; omega), path_f, Option.bind_some]
  by_cases h : pathB (a ++ ⟨#[47]⟩ ++ b) = true
  · rw [if_pos h]
    rw [pathB_join] at h
    simp only [Bool.and_eq_true, decide_eq_true_eq] at h
    have h1 : pathB a = true := by unfold pathB; rw [decide_eq_true (by omega), h.2.1]; rfl
    have h2 : pathB b = true := by unfold pathB; rw [decide_eq_true (by omega), h.2.2]; rfl
    rw [path_f, h1, Option.bind_some, if_pos rfl, path_f, h2, Option.bind_some]
    exact j3 k a ha (by omega)
  · rw [if_neg h]
    exact j3 k a ha (by omega)
theorem j0 (k : Nat) (a b : ByteArray) (ha : a.size ≤ 200) (hb : b.size ≤ 200) (hk : 103 ≤ k) : armadalaw05_FilesParts.j0 (k + 1) a b false = some true := by
  obtain ⟨k, rfl⟩ : ∃ k', k = k' + 1 + 1 := ⟨k - 2, by omega⟩
  have hs : (a ++ (⟨#[47]⟩ : ByteArray)).size = a.size + 1 := by rw [ByteArray.size_append]; rfl
  have hf : armadalaw05_FilesParts.j1 (k + 1 + 1) a b false = some true := by
    rw [armadalaw05_FilesParts.j1, if_neg (by decide)]
    exact j2 k a b ha hb (by omega)
  rw [armadalaw05_FilesParts.j0, if_neg (by decide), path_f, Option.bind_some]
  by_cases h1 : pathB a = true
  · rw [if_pos h1, path_f, Option.bind_some]
    by_cases h2 : pathB b = true
    · rw [if_pos h2, gw64 (by omega) (by omega)]
      by_cases h3 : (a.size : Int) + (b.size : Int) < 60
      · rw [decide_eq_true h3, armadalaw05_FilesParts.j1, if_pos rfl, if_pos (by omega), if_pos (by rw [hs]; omega), path_f, Option.bind_some]
        have h : pathB (a ++ ⟨#[47]⟩ ++ b) = true := by
          unfold pathB at h1 h2
          simp only [Bool.and_eq_true, decide_eq_true_eq] at h1 h2
          rw [pathB_join, decide_eq_true (by omega), h1.2, h2.2]; rfl
        rw [h]
        exact j2 k a b ha hb (by omega)
      · rw [decide_eq_false h3]; exact hf
    · rw [if_neg h2]; exact hf
  · rw [if_neg h1]; exact hf
theorem j0t (k : Nat) (a b : ByteArray) (hk : 100 ≤ k) : armadalaw05_FilesParts.j0 (k + 1) a b true = some true := by
  rw [armadalaw05_FilesParts.j0, if_pos rfl, live_f k hk]; rfl
theorem FilesParts (a b : ByteArray) : armadalaw05_FilesParts.f 200 a b = some true := by
  unfold armadalaw05_FilesParts.f
  by_cases ha : a.size ≤ 200
  · rw [if_neg (by omega)]
    by_cases hb : b.size ≤ 200
    · rw [decide_eq_false (by omega)]; exact j0 _ a b ha hb (by decide)
    · rw [decide_eq_true (by omega)]; exact j0t _ a b (by decide)
  · rw [if_pos (by omega)]; exact j0t _ a b (by decide)
end Go.Proofs.YtnhhbmekjoanbaaDoor.Pure
