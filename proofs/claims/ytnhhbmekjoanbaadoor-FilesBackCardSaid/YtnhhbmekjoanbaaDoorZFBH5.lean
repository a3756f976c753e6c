/- files: bytes by their places. -/
import Derived.Test.YtnhhbmekjoanbaaDoorZFBH4
import Derived.Test.YtnhhbmekjoanbaaDoorZFBH3
import Derived.Test.YtnhhbmekjoanbaaDoorZFBM0
import Derived.OpenShut
import Derived.Deep.Slices
import Derived.ChangeArms
import Derived.SizedLaws
import Derived.Test.YtnhhbmekjoanbaaDoorZFBM2
namespace Go.Proofs.YtnhhbmekjoanbaaDoor.P
open Go.RowKit Go.Proofs.YtnhhbmekjoanbaaDoorW.PrintWords Go.Proofs.YtnhhbmekjoanbaaDoorW.PrintLast Go.Proofs.YtnhhbmekjoanbaaDoorW.PrintMore
set_option linter.unusedVariables false
theorem getX {s : ByteArray} {i : Nat} (h : i < s.size) : s.get! i = s[i] := by
  obtain ⟨⟨l⟩⟩ := s
  show (ByteArray.get! ⟨⟨l⟩⟩ i) = _
  unfold ByteArray.get!
  exact getElem!_pos _ i h
theorem encB_step (t : ByteArray) (o : S45) (r : List S45) : encB t (o :: r) = if checkB o = 0 then encB (t ++ opB o) r else (⟨#[]⟩, checkB o) := rfl
end Go.Proofs.YtnhhbmekjoanbaaDoor.P
namespace Go.Proofs.YtnhhbmekjoanbaaDoor.P
open Go.RowKit Go.Proofs.YtnhhbmekjoanbaaDoorW.PrintWords Go.Proofs.YtnhhbmekjoanbaaDoorW.PrintLast Go.Proofs.YtnhhbmekjoanbaaDoorW.PrintMore
set_option linter.unusedVariables false
theorem tl_eq {a b : ByteArray} (h : a.toList = b.toList) : a = b := by
  rw [ByteArray.toList_eq, ByteArray.toList_eq] at h
  exact tl_inj h
theorem up1 (i n : Nat) (h : i < n) (hn : n ≤ 9223372036854775807) : wrap64 ((i : Int) + 1) = ((i + 1 : Nat) : Int) := by rw [gw64 (by omega) (by omega)]; rfl
def litB (x : S49) : Bool := decide (x.f0.size ≤ 200) && decide (x.f1.size ≤ 5000)
def smallB (l : List S49) : Bool := l.all litB && decide (l.length ≤ 60)
theorem small_l0 (l : List S49) (hl : l.length ≤ 9223372036854775807) : ∀ (k i : Nat), i ≤ l.length → l.length - i < k → armadaref05_Small.l0 k l (i : Int) = some ((l.drop i).all litB && decide (l.length ≤ 60))
  | 0, _, _, h => absurd h (by omega)
  | k + 1, i, hi, h => by
    rw [armadaref05_Small.l0]
    cases hd : l.drop i with
    | nil =>
      have := List.drop_eq_nil_iff.1 hd
      rw [if_neg (by omega), List.all_nil, Bool.true_and]
      congr 1
      apply decide_eq_decide.2; omega
    | cons x r =>
      obtain ⟨h1, h2, h3⟩ := rdF_drop hd
      rw [if_pos (by omega), if_pos (by omega), h1, List.all_cons, litB]
      have ih := small_l0 l hl k (i + 1) (by omega) (by omega)
      rw [h3] at ih
      by_cases h4 : x.f0.size ≤ 200
      · rw [if_neg (by omega), decide_eq_true h4]
        by_cases h5 : x.f1.size ≤ 5000
        · rw [if_neg (by omega), decide_eq_true h5, up1 i _ h2 hl, ih]; rfl
        · rw [if_pos (by omega), decide_eq_false h5]; rfl
      · rw [if_pos (by omega), decide_eq_false h4]; rfl
theorem small_f (l : List S49) (hl : l.length ≤ 9223372036854775807) (k : Nat) (hk : l.length < k) : armadaref05_Small.f k l = some (smallB l) := small_l0 l hl k 0 (Nat.zero_le _) (by omega)
def litO (x : S45) : Bool := decide (x.f1.size ≤ 200) && decide (x.f2.size ≤ 5000)
def fewB (l : List S45) : Bool := l.all litO && decide (l.length ≤ 100)
theorem few_l0 (l : List S45) (hl : l.length ≤ 9223372036854775807) : ∀ (k i : Nat), i ≤ l.length → l.length - i < k → armadaref05_Few.l0 k l (i : Int) = some ((l.drop i).all litO && decide (l.length ≤ 100))
  | 0, _, _, h => absurd h (by omega)
  | k + 1, i, hi, h => by
    rw [armadaref05_Few.l0]
    cases hd : l.drop i with
    | nil =>
      have := List.drop_eq_nil_iff.1 hd
      rw [if_neg (by omega), List.all_nil, Bool.true_and]
      congr 1
      apply decide_eq_decide.2; omega
    | cons x r =>
      obtain ⟨h1, h2, h3⟩ := rdO_drop hd
      rw [if_pos (by omega), if_pos (by omega), h1, List.all_cons, litO]
      have ih := few_l0 l hl k (i + 1) (by omega) (by omega)
      rw [h3] at ih
      by_cases h4 : x.f1.size ≤ 200
      · rw [if_neg (by omega), decide_eq_true h4]
        by_cases h5 : x.f2.size ≤ 5000
        · rw [if_neg (by omega), decide_eq_true h5, up1 i _ h2 hl, ih]; rfl
        · rw [if_pos (by omega), decide_eq_false h5]; rfl
      · rw [if_pos (by omega), decide_eq_false h4]; rfl
theorem few_f (l : List S45) (hl : l.length ≤ 9223372036854775807) (k : Nat) (hk : l.length < k) : armadaref05_Few.f k l = some (fewB l) := few_l0 l hl k 0 (Nat.zero_le _) (by omega)
theorem few_len {l : List S45} (h : fewB l = true) : l.length ≤ 100 := by
  unfold fewB at h
  simp only [Bool.and_eq_true, decide_eq_true_eq] at h
  exact h.2
def eqF (x y : S49) : Bool := (x.f0.toList == y.f0.toList) && (x.f1.toList == y.f1.toList)
def sameB : List S49 → List S49 → Bool
  | [], [] => true
  | x :: l, y :: m => eqF x y && sameB l m
  | _, _ => false
theorem eqF_iff (x y : S49) : eqF x y = true ↔ x = y := by
  obtain ⟨a, b⟩ := x
  obtain ⟨c, d⟩ := y
  unfold eqF
  simp only [Bool.and_eq_true, beq_iff_eq]
  constructor
  · rintro ⟨h1, h2⟩
    rw [tl_eq h1, tl_eq h2]
  · intro h
    injection h with h1 h2
    rw [h1, h2]
    exact ⟨rfl, rfl⟩
theorem sameB_iff : ∀ l m : List S49, sameB l m = true ↔ l = m
  | [], [] => by simp [sameB]
  | [], _ :: _ => by simp [sameB]
  | _ :: _, [] => by simp [sameB]
  | x :: l, y :: m => by
    rw [sameB, Bool.and_eq_true, eqF_iff, sameB_iff l m, List.cons.injEq]
theorem rsame_l0 (l m : List S49) (hl : l.length ≤ 9223372036854775807) (hm : l.length = m.length) : ∀ (k i : Nat), i ≤ l.length → l.length - i < k → armadaref05_Same.l0 k l m (i : Int) = some (sameB (l.drop i) (m.drop i))
  | 0, _, _, h => absurd h (by omega)
  | k + 1, i, hi, h => by
    rw [armadaref05_Same.l0]
    cases hd : l.drop i with
    | nil =>
      have := List.drop_eq_nil_iff.1 hd
      rw [if_neg (by omega), List.drop_eq_nil_iff.2 (by omega)]; rfl
    | cons x r =>
      obtain ⟨h1, h2, h3⟩ := rdF_drop hd
      cases he : m.drop i with
      | nil => have := List.drop_eq_nil_iff.1 he; omega
      | cons y s =>
        obtain ⟨g1, g2, g3⟩ := rdF_drop he
        rw [if_pos (by omega), if_pos (by omega), if_pos (by omega), h1, g1, sameB]
        have ih := rsame_l0 l m hl hm k (i + 1) (by omega) (by omega)
        rw [h3, g3] at ih
        rw [up1 i _ h2 hl, ih]
        unfold eqF
        cases (x.f0.toList == y.f0.toList) <;> cases (x.f1.toList == y.f1.toList) <;> rfl
theorem rsame_f (l m : List S49) (hl : l.length ≤ 9223372036854775807) (k : Nat) (hk : l.length < k) : armadaref05_Same.f k l m = some (sameB l m) := by
  unfold armadaref05_Same.f
  by_cases h : l.length = m.length
  · rw [if_pos (by omega)]
    exact rsame_l0 l m hl h k 0 (Nat.zero_le _) (by omega)
  · rw [if_neg (by omega)]
    congr 1
    symm
    rw [Bool.eq_false_iff]
    intro c
    exact h (by rw [(sameB_iff l m).1 c])
theorem psame_l0 (l m : List S49) (hl : l.length ≤ 9223372036854775807) (hm : l.length = m.length) : ∀ (k i : Nat), i ≤ l.length → l.length - i < k → api_File_36.l0 k l m (l.length : Int) (i : Int) = some (sameB (l.drop i) (m.drop i))
  | 0, _, _, h => absurd h (by omega)
  | k + 1, i, hi, h => by
    rw [api_File_36.l0]
    cases hd : l.drop i with
    | nil =>
      have := List.drop_eq_nil_iff.1 hd
      rw [if_neg (by omega), List.drop_eq_nil_iff.2 (by omega)]; rfl
    | cons x r =>
      obtain ⟨h1, h2, h3⟩ := rdF_drop hd
      cases he : m.drop i with
      | nil => have := List.drop_eq_nil_iff.1 he; omega
      | cons y s =>
        obtain ⟨g1, g2, g3⟩ := rdF_drop he
        rw [if_pos (by omega), if_pos (by omega), if_pos (by omega), if_pos (by omega), h1, g1, sameB]
        have ih := psame_l0 l m hl hm k (i + 1) (by omega) (by omega)
        rw [h3, g3] at ih
        rw [up1 i _ h2 hl, ih]
        unfold eqF
        cases (x.f0.toList == y.f0.toList) <;> cases (x.f1.toList == y.f1.toList) <;> rfl
theorem same_f (l m : List S49) (hl : l.length ≤ 9223372036854775807) (k : Nat) (hk : l.length < k) : files_Same.f k l m = some (sameB l m) := by
  unfold files_Same.f api_File_36.f
  by_cases h : l.length = m.length
  · rw [if_pos (by omega), show (0 : Int) = ((0 : Nat) : Int) from rfl, psame_l0 l m hl h k 0 (Nat.zero_le _) (by omega)]; rfl
  · rw [if_neg (by omega)]
    show some false = _
    congr 1
    symm
    rw [Bool.eq_false_iff]
    intro c
    exact h (by rw [(sameB_iff l m).1 c])
def eqO (x y : S45) : Bool := (x.f0 == y.f0) && ((x.f1.toList == y.f1.toList) && (x.f2.toList == y.f2.toList))
def opsB : List S45 → List S45 → Bool
  | [], [] => true
  | x :: l, y :: m => eqO x y && opsB l m
  | _, _ => false
theorem eqO_iff (x y : S45) : eqO x y = true ↔ x = y := by
  obtain ⟨a, b, c⟩ := x
  obtain ⟨d, e, f⟩ := y
  unfold eqO
  simp only [Bool.and_eq_true, beq_iff_eq]
  constructor
  · rintro ⟨h0, h1, h2⟩
    rw [h0, tl_eq h1, tl_eq h2]
  · intro h
    injection h with h0 h1 h2
    rw [h0, h1, h2]
    exact ⟨rfl, rfl, rfl⟩
theorem opsB_iff : ∀ l m : List S45, opsB l m = true ↔ l = m
  | [], [] => by simp [opsB]
  | [], _ :: _ => by simp [opsB]
  | _ :: _, [] => by simp [opsB]
  | x :: l, y :: m => by
    rw [opsB, Bool.and_eq_true, eqO_iff, opsB_iff l m, List.cons.injEq]
theorem ops_l0 (l m : List S45) (hl : l.length ≤ 9223372036854775807) (hm : l.length = m.length) : ∀ (k i : Nat), i ≤ l.length → l.length - i < k → armadaref05_Ops.l0 k l m (i : Int) = some (opsB (l.drop i) (m.drop i))
  | 0, _, _, h => absurd h (by omega)
  | k + 1, i, hi, h => by
    rw [armadaref05_Ops.l0]
    cases hd : l.drop i with
    | nil =>
      have := List.drop_eq_nil_iff.1 hd
      rw [if_neg (by omega), List.drop_eq_nil_iff.2 (by omega)]; rfl
    | cons x r =>
      obtain ⟨h1, h2, h3⟩ := rdO_drop hd
      cases he : m.drop i with
      | nil => have := List.drop_eq_nil_iff.1 he; omega
      | cons y s =>
        obtain ⟨g1, g2, g3⟩ := rdO_drop he
        rw [if_pos (by omega), if_pos (by omega), if_pos (by omega), h1, g1, opsB]
        have ih := ops_l0 l m hl hm k (i + 1) (by omega) (by omega)
        rw [h3, g3] at ih
        rw [up1 i _ h2 hl, ih]
        unfold eqO
        cases (x.f0 == y.f0) <;> cases (x.f1.toList == y.f1.toList) <;> cases (x.f2.toList == y.f2.toList) <;> rfl
theorem ops_f (l m : List S45) (hl : l.length ≤ 9223372036854775807) (k : Nat) (hk : l.length < k) : armadaref05_Ops.f k l m = some (opsB l m) := by
  unfold armadaref05_Ops.f
  by_cases h : l.length = m.length
  · rw [if_pos (by omega)]
    exact ops_l0 l m hl h k 0 (Nat.zero_le _) (by omega)
  · rw [if_neg (by omega)]
    congr 1
    symm
    rw [Bool.eq_false_iff]
    intro c
    exact h (by rw [(opsB_iff l m).1 c])
end Go.Proofs.YtnhhbmekjoanbaaDoor.P
set_option linter.unusedVariables false
set_option linter.unusedSimpArgs false
namespace Go.Proofs.YtnhhbmekjoanbaaDoor.Op
open Go.RowKit Go.Deep Go.ChangeShapes Go.WideShapes Go.Proofs.YtnhhbmekjoanbaaDoorW.PrintWords Go.Proofs.YtnhhbmekjoanbaaDoorW.PrintLast Go.Proofs.YtnhhbmekjoanbaaDoorW.PrintMore
/-- No row and no text in it weighs more than what can be reached. -/
def Light {H : Type} (P : Program) (t : TypeId) (d : DataW H) : Prop := ∀ n ∈ d.weights P t, n ≤ reachBytes
theorem Light.each {H : Type} {P : Program} : ∀ {ts : List TypeId} {ds : List (DataW H)}, (∀ n ∈ DataW.weightsEach P ts ds, n ≤ reachBytes) → ∀ (j : Nat) {t : TypeId} {d : DataW H}, ts[j]? = some t → ds[j]? = some d → Light P t d :=
  fun h _ _ _ ht hd n hn => h n (DataW.weights_mem_each ht hd n hn)
theorem Light.all {H : Type} {P : Program} {e : TypeId} : ∀ {ds : List (DataW H)}, (∀ n ∈ DataW.weightsAll P e ds, n ≤ reachBytes) → ∀ (j : Nat) {d : DataW H}, ds[j]? = some d → Light P e d
  | [], _, j, d, hd => by simp at hd
  | x :: r, h, 0, d, hd => by
    obtain rfl : x = d := by simpa using hd
    intro n hn
    exact h n (by simp only [DataW.weightsAll, List.mem_append]; exact .inl hn)
  | x :: r, h, j + 1, d, hd => Light.all (ds := r) (fun n hn => h n (by simp only [DataW.weightsAll, List.mem_append]; exact .inr hn)) j (by simpa using hd)
theorem Light.arg {H : Type} {P : Program} {ts : List TypeId} {ds : List (DataW H)} (h : (DataW.weightsEach P ts ds).all (· ≤ reachBytes) = true) (j : Nat) {t : TypeId} {d : DataW H} (ht : ts[j]? = some t) (hd : ds[j]? = some d) : Light P t d :=
  Light.each (fun n hn => of_decide_eq_true (List.all_eq_true.1 h n hn)) j ht hd
/-- How cells of a type read. -/
structure Cdc (P : Program) (t : TypeId) (α : Type) where
  sz : Nat
  K : World → α → List Value → Prop
  hsz : P.cellsOf t = sz
  len : ∀ {w a cs}, K w a cs → cs.length = sz
  opens : ∀ {H : Type} {enc : TypeId × Value → H} {w : World} {base : Nat} {spare : Nat → Bool} {held : Bool} {fuel : Nat} {cs : List Value} {x : DataW H × List MemPlace},
    DataW.trod enc P w base spare held fuel t cs = some x → Light P t x.1 → ∃ a, K w a cs
def Cdc.int {P : Program} {t : TypeId} {k : IntKind} (ht : P.underlying t = some (.int k)) (hc : P.cellsOf t = 1) : Cdc P t Int where
  sz := 1
  K := fun _ a cs => cs = [.int k a] ∧ (Lit.int k a).wf = true
  hsz := hc
  len := fun h => by rw [h.1]; rfl
  opens := fun h _ => by
    obtain ⟨n, h1, _, h2⟩ := DataW.trod_int ht h
    exact ⟨n, h1, h2⟩
def Cdc.bool {P : Program} {t : TypeId} (ht : P.underlying t = some .bool) (hc : P.cellsOf t = 1) : Cdc P t Bool where
  sz := 1
  K := fun _ a cs => cs = [.bool a]
  hsz := hc
  len := fun h => by rw [h]; rfl
  opens := fun h _ => by
    obtain ⟨n, h1, _⟩ := DataW.trod_bool ht h
    exact ⟨n, h1⟩
def Cdc.str {P : Program} {t : TypeId} (ht : P.underlying t = some .string) (hc : P.cellsOf t = 1) : Cdc P t ByteArray where
  sz := 1
  K := fun _ a cs => cs = [.string a] ∧ a.size ≤ 140737488351232
  hsz := hc
  len := fun h => by rw [h.1]; rfl
  opens := fun h hw => by
    obtain ⟨n, h1, h3, h2⟩ := DataW.trod_string ht h
    subst h3
    have := hw n.data.toList.length (by simp [DataW.weights])
    rw [Array.length_toList] at this
    exact ⟨n, h1, this⟩
def Cdc.slice {P : Program} {t te : TypeId} {α : Type} (ht : P.underlying t = some (.slice te)) (hc : P.cellsOf t = 1) (e : Cdc P te α) : Cdc P t (Option Addr × Nat × List α) where
  sz := 1
  K := fun w a cs => cs = [.slice a.1 a.2.2.length a.2.1] ∧ a.2.2.length ≤ a.2.1 ∧ ReadsRow (e.K w) e.sz w a.1 a.2.2.length a.2.2
  hsz := hc
  len := fun h => by rw [h.1]; rfl
  opens := fun {H enc w base spare held fuel cs x} h hw => by
    rcases DataW.trod_slice ht h with ⟨rfl, _⟩ | ⟨a, len, cap, elems, rest, n, _, rfl, hx, hb, hl, hm, hlen, hel, _, _⟩
    · exact ⟨(none, 0, []), rfl, Nat.le_refl _, rfl, Nat.zero_le _, fun h => by cases h⟩
    · subst hx
      have hwe : ∀ n ∈ DataW.weightsAll P te (elems.map (·.1)), n ≤ reachBytes := fun n hn => hw n (by simp only [DataW.weights, ht, List.mem_cons, List.mem_append]; exact .inr (.inl hn))
      have each : ∀ i, i < len → ∃ y, ∃ c, c.length = e.sz ∧ e.K w y c ∧ ∀ j u, c[j]? = some u → w.cell? (a.add (i * e.sz + j)) = some u := by
        intro i hi
        have h1 := hel i hi
        have hi' : i < elems.length := by omega
        rw [List.getElem?_eq_getElem hi', Option.bind_eq_some_iff] at h1
        obtain ⟨c, hcs, hy⟩ := h1
        obtain ⟨_, hcl, hat⟩ := World.cells?_some hcs
        obtain ⟨y, hK⟩ := e.opens hy (Light.all hwe i (by rw [List.getElem?_map, List.getElem?_eq_getElem hi']; rfl))
        refine ⟨y, c, e.len hK, hK, fun j u hu => ?_⟩
        have hj : j < c.length := (List.getElem?_eq_some_iff.1 hu).1
        rw [← Deep.add_add, ← e.hsz, hat j (by omega), hu]
      have big : ∀ m, m ≤ len → ∃ l : List α, l.length = m ∧ ∀ i p, l[i]? = some p → ∃ c, c.length = e.sz ∧ e.K w p c ∧ ∀ j u, c[j]? = some u → w.cell? (a.add (i * e.sz + j)) = some u := by
        intro m
        induction m with
        | zero => intro _; exact ⟨[], rfl, fun i p h => by simp at h⟩
        | succ m ih =>
          intro hm2
          obtain ⟨l, h1, h2⟩ := ih (by omega)
          obtain ⟨y, hy⟩ := each m (by omega)
          refine ⟨l ++ [y], by simp [h1], fun i p hp => ?_⟩
          rcases Nat.lt_or_ge i l.length with hi | hi
          · rw [List.getElem?_append_left hi] at hp
            exact h2 i p hp
          · have hi2 : i = m := by
              have := (List.getElem?_eq_some_iff.1 hp).1
              rw [List.length_append, List.length_singleton] at this
              omega
            subst hi2
            rw [List.getElem?_append_right (by omega)] at hp
            have : y = p := by simpa [h1] using hp
            subst this
            exact hy
      obtain ⟨l, h1, h2⟩ := big len (Nat.le_refl _)
      subst h1
      exact ⟨(some a, cap, l), rfl, hl, rfl, by unfold maxLen at hm; show l.length ≤ _; omega, fun _ => ⟨a, rfl, h2⟩⟩
/-- The fields of a struct, from an offset on. -/
structure Fl (P : Program) (fs : List Field) (off : Nat) (α : Type) where
  sz : Nat
  K : World → α → List Value → Prop
  len : ∀ {w a cs}, K w a cs → cs.length = sz
  opens : ∀ {H : Type} {enc : TypeId × Value → H} {w : World} {base : Nat} {spare : Nat → Bool} {held : Bool} {n : Nat} {cs : List Value} {xs : List (DataW H × List MemPlace)}, xs.length = fs.length → cs.length = off + sz → (∀ n ∈ DataW.weightsEach P (fs.map (·.type)) (xs.map (·.1)), n ≤ reachBytes) →
    (∀ (i : Nat) (f : Field), fs[i]? = some f → DataW.trod enc P w base spare held n f.type ((cs.drop f.offset).take (P.cellsOf f.type)) = xs[i]?) → ∃ a, K w a (cs.drop off)
def Fl.nil {P : Program} {off : Nat} : Fl P [] off Unit where
  sz := 0
  K := fun _ _ cs => cs = []
  len := fun h => by rw [h]; rfl
  opens := fun _ h _ _ => ⟨(), by rw [List.drop_eq_nil_iff]; omega⟩
def Fl.cons {P : Program} {f : Field} {fs : List Field} {off : Nat} {α β : Type} (c : Cdc P f.type α) (ho : f.offset = off) (r : Fl P fs (off + c.sz) β) : Fl P (f :: fs) off (α × β) where
  sz := c.sz + r.sz
  K := fun w a cs => ∃ c0 c1, cs = c0 ++ c1 ∧ c.K w a.1 c0 ∧ r.K w a.2 c1
  len := fun ⟨c0, c1, h, h0, h1⟩ => by rw [h, List.length_append, c.len h0, r.len h1]
  opens := fun {H enc w base spare held n cs xs} hx hl hw h => by
    match xs, hx with
    | x :: xs, hx =>
      simp only [List.map_cons, DataW.weightsEach, List.mem_append] at hw
      have h0 := h 0 f rfl
      rw [List.getElem?_cons_zero] at h0
      obtain ⟨a, ha⟩ := c.opens h0 (fun n hn => hw n (.inl hn))
      obtain ⟨b, hb⟩ := r.opens (cs := cs) (xs := xs) (by simpa using hx) (by omega) (fun n hn => hw n (.inr hn)) (fun i g hg => by simpa using h (i + 1) g (by simpa using hg))
      refine ⟨(a, b), _, _, ?_, ha, hb⟩
      rw [c.hsz, ho, ← List.drop_drop, List.take_append_drop]
def Cdc.struct {P : Program} {t : TypeId} {α : Type} {fs : Array Field} (ht : P.underlying t = some (.struct fs)) (r : Fl P fs.toList 0 α) (hc : P.cellsOf t = r.sz) : Cdc P t α where
  sz := r.sz
  K := r.K
  hsz := hc
  len := r.len
  opens := fun {H enc w base spare held fuel cs x} h hw => by
    obtain ⟨xs, n, _, hx, hl, hxl, hf⟩ := DataW.trod_struct ht h
    subst hx
    obtain ⟨a, ha⟩ := r.opens (xs := xs) (by simpa using hxl) (by omega) (fun n hn => hw n (by simp only [DataW.weights, ht]; exact hn)) (fun i f hi => hf i f (by simpa using hi))
    exact ⟨a, by simpa using ha⟩
/-- The same cells, read as another kind of thing. -/
def Cdc.map {P : Program} {t : TypeId} {α β : Type} (e : Cdc P t α) (f : α → β) : Cdc P t β where
  sz := e.sz
  K := fun w b cs => ∃ a, b = f a ∧ e.K w a cs
  hsz := e.hsz
  len := fun ⟨_, _, h⟩ => e.len h
  opens := fun h hw => by
    obtain ⟨a, ha⟩ := e.opens h hw
    exact ⟨f a, a, rfl, ha⟩
theorem row_len {α : Type} {R : α → List Value → Prop} {size : Nat} {w : World} {A : Option Addr} {n : Nat} {l : List α} (h : ReadsRow R size w A n l) : n ≤ 9223372036854775807 := h.2.1
theorem row_C {α : Type} {R R' : α → List Value → Prop} {size : Nat} {w : World} {A : Option Addr} {n : Nat} {l : List α} (h : ReadsRow R size w A n l) (hR : ∀ p c, R p c → R' p c) : ReadsRow R' size w A n l :=
  h.imp_ (Below.refl _ _) hR
/-- A slice. -/
theorem open_row {P : Program} {t te : TypeId} {α : Type} (c : Cdc P t (Option Addr × Nat × List α)) (ht : P.underlying t = some (.slice te)) {H : Type} {enc : TypeId × Value → H} {w : World} {base : Nat} {spare : Nat → Bool} {held : Bool} {r : Reach} {b0 : Nat} {v : Value} {d : DataW H} {p : List MemPlace}
    (hv : Value.okWide P w r b0 t v) (h : DataW.Trod enc P w base spare held t v d p) (hw : Light P t d) : ∃ (a : Option Addr × Nat × List α), c.K w a [v] := by
  obtain ⟨A, l, cp, rfl⟩ := okWide_slice ht hv
  obtain ⟨fuel, hf⟩ := h
  obtain ⟨a, ha⟩ := c.opens hf hw
  exact ⟨a, ha⟩
theorem lt_of_trod {P : Program} {t : TypeId} {H : Type} {enc : TypeId × Value → H} {w : World} {base : Nat} {spare : Nat → Bool} {held : Bool} {v : Value} {d : DataW H} {p : List MemPlace}
    (h : DataW.Trod enc P w base spare held t v d p) : ∀ x ∈ p, x.block < w.heap.size := by
  obtain ⟨m, hm⟩ := h
  exact DataW.trod_lt m _ _ _ hm
end Go.Proofs.YtnhhbmekjoanbaaDoor.Op
namespace Go.Proofs.YtnhhbmekjoanbaaDoor.P
open Go.RowKit Go.Proofs.YtnhhbmekjoanbaaDoorW.PrintWords Go.Proofs.YtnhhbmekjoanbaaDoorW.PrintLast Go.Proofs.YtnhhbmekjoanbaaDoorW.PrintMore
set_option linter.unusedVariables false
abbrev lt8 (a b : ByteArray) : Prop := a.data.toList < b.data.toList
theorem lt8_irr (a : ByteArray) : ¬ lt8 a a := List.lt_irrefl _
theorem lt8_trans {a b c : ByteArray} (h : lt8 a b) (g : lt8 b c) : lt8 a c := List.lt_trans h g
theorem lt8_tri {a b : ByteArray} (h : ¬ lt8 a b) (g : ¬ lt8 b a) : a = b := ByteArray.ext (Array.toList_inj.mp (List.le_antisymm (List.not_lt.1 g) (List.not_lt.1 h)))
theorem less_lt (a b : ByteArray) : Op.bytesLess a.toList b.toList = decide (lt8 a b) := by
  rw [Go.Proofs.bytesLess_eq, ByteArray.toList_eq, ByteArray.toList_eq]
/-- Files rise by their paths. -/
def Asc (l : List S49) : Prop := l.Pairwise (fun x y => lt8 x.f0 y.f0)
def okF (x : S49) : Prop := pathB x.f0 = true ∧ x.f1.size ≤ 4096
theorem rise_iff : ∀ (l : List S49) (last : ByteArray), riseB last l = true ↔ (Asc l ∧ (∀ x ∈ l, okF x) ∧ ∀ x ∈ l, lt8 last x.f0)
  | [], last => by simp [riseB, Asc]
  | x :: r, last => by
    rw [riseB, less_lt]
    simp only [Bool.and_eq_true, decide_eq_true_eq]
    rw [rise_iff r x.f0]
    constructor
    · rintro ⟨h1, h2, h3, h4, h5, h6⟩
      refine ⟨List.pairwise_cons.2 ⟨h6, h4⟩, ?_, ?_⟩
      · intro y hy
        rcases List.mem_cons.1 hy with rfl | hy
        · exact ⟨h1, h2⟩
        · exact h5 y hy
      · intro y hy
        rcases List.mem_cons.1 hy with rfl | hy
        · exact h3
        · exact lt8_trans h3 (h6 y hy)
    · rintro ⟨h1, h2, h3⟩
      obtain ⟨g1, g2⟩ := List.pairwise_cons.1 h1
      exact ⟨(h2 x List.mem_cons_self).1, (h2 x List.mem_cons_self).2, h3 x List.mem_cons_self, g2, fun y hy => h2 y (List.mem_cons_of_mem _ hy), g1⟩
theorem pathB_ne' {s : ByteArray} (h : pathB s = true) : lt8 ⟨#[]⟩ s := by
  cases hl : s.data.toList with
  | nil =>
    have e : s = ⟨#[]⟩ := ByteArray.ext (Array.toList_inj.mp hl)
    subst e
    exact absurd h (by decide +kernel)
  | cons x r =>
    show ([] : List UInt8) < s.data.toList
    rw [hl]
    exact List.nil_lt_cons x r
theorem may_iff (l : List S49) : mayB l = true ↔ (l.length ≤ 40 ∧ Asc l ∧ ∀ x ∈ l, okF x) := by
  unfold mayB
  rw [Bool.and_eq_true, decide_eq_true_eq, rise_iff]
  constructor
  · rintro ⟨h1, h2, h3, _⟩; exact ⟨h1, h2, h3⟩
  · rintro ⟨h1, h2, h3⟩; exact ⟨h1, h2, h3, fun x hx => pathB_ne' (h3 x hx).1⟩
theorem asc_get {l : List S49} (h : Asc l) {i j : Nat} (hij : i < j) (hj : j < l.length) : lt8 (l[i]'(by omega)).f0 l[j].f0 := List.pairwise_iff_getElem.1 h i j (by omega) hj hij
theorem binF_spec (l : List S49) (p : ByteArray) (ha : Asc l) : ∀ (k i j : Nat), i ≤ j → j ≤ l.length → j - i ≤ k → (∀ m (hm : m < l.length), m < i → lt8 l[m].f0 p) → (∀ m (hm : m < l.length), j ≤ m → ¬ lt8 l[m].f0 p) →
    (∀ m (hm : m < l.length), m < binF l p k i j → lt8 l[m].f0 p) ∧ (∀ m (hm : m < l.length), binF l p k i j ≤ m → ¬ lt8 l[m].f0 p)
  | 0, i, j, hij, hj, hk, h1, h2 => by
    have : i = j := by omega
    subst this
    exact ⟨h1, h2⟩
  | k + 1, i, j, hij, hj, hk, h1, h2 => by
    rw [binF]
    by_cases h : i < j
    · rw [if_pos h]
      obtain ⟨m, hm⟩ : ∃ m, (i + j) / 2 = m := ⟨_, rfl⟩
      rw [hm]
      have hml : m < l.length := by omega
      rw [rdF_get l m hml]
      by_cases hc : l[m].f0.data.toList < p.data.toList
      · rw [if_pos ((cmpS_lt _ _).2 hc)]
        refine binF_spec l p ha k (m + 1) j (by omega) hj (by omega) ?_ h2
        intro q hq hqm
        by_cases e : q = m
        · subst e; exact hc
        · exact lt8_trans (asc_get ha (show q < m by omega) hml) hc
      · rw [if_neg (fun c => hc ((cmpS_lt _ _).1 c))]
        refine binF_spec l p ha k i m (by omega) (by omega) (by omega) h1 ?_
        intro q hq hqm hlt
        by_cases e : q = m
        · subst e; exact hc hlt
        · exact hc (lt8_trans (asc_get ha (show m < q by omega) hq) hlt)
    · rw [if_neg h]
      have : i = j := by omega
      subst this
      exact ⟨h1, h2⟩
theorem at_split (l : List S49) (p : ByteArray) (ha : Asc l) : (∀ x ∈ l.take (atF p l), lt8 x.f0 p) ∧ (∀ x ∈ l.drop (atF p l), ¬ lt8 x.f0 p) := by
  obtain ⟨h1, h2⟩ := binF_spec l p ha l.length 0 l.length (Nat.zero_le _) (Nat.le_refl _) (by omega) (fun m hm h => by omega) (fun m hm h => by omega)
  have hle := atF_le p l
  constructor
  · intro x hx
    obtain ⟨i, hi, rfl⟩ := List.mem_iff_getElem.1 hx
    rw [List.length_take] at hi
    rw [List.getElem_take]
    exact h1 i (by omega) (by show i < atF p l; omega)
  · intro x hx
    obtain ⟨i, hi, rfl⟩ := List.mem_iff_getElem.1 hx
    rw [List.length_drop] at hi
    rw [List.getElem_drop]
    exact h2 (atF p l + i) (by omega) (Nat.le_add_right _ _)
theorem isF_split (l : List S49) (p : ByteArray) (ha : Asc l) : (isF p l = true ∧ ∃ x r, l.drop (atF p l) = x :: r ∧ x.f0 = p ∧ ∀ y ∈ r, lt8 p y.f0) ∨ (isF p l = false ∧ ∀ y ∈ l.drop (atF p l), lt8 p y.f0) := by
  have hs := at_split l p ha
  unfold isF
  by_cases h : atF p l < l.length
  · rw [decide_eq_true h, Bool.true_and, rdF_get l _ h]
    have hd := List.drop_eq_getElem_cons h
    have hp : (l.drop (atF p l)).Pairwise (fun x y => lt8 x.f0 y.f0) := List.Pairwise.sublist (List.drop_sublist ..) ha
    rw [hd] at hp hs
    obtain ⟨g1, g2⟩ := List.pairwise_cons.1 hp
    by_cases e : cmpS (l[atF p l]).f0 p = 0
    · refine .inl ⟨beq_iff_eq.2 e, _, _, hd, ?_, ?_⟩
      · exact ByteArray.ext (Array.toList_inj.mp ((cb_eq _ _).1 e))
      · intro y hy
        have := g1 y hy
        rwa [show (l[atF p l]).f0 = p from ByteArray.ext (Array.toList_inj.mp ((cb_eq _ _).1 e))] at this
    · refine .inr ⟨beq_eq_false_iff_ne.2 e, ?_⟩
      have hne : (l[atF p l]).f0 ≠ p := fun c => e ((cb_eq _ _).2 (by rw [c]))
      have h0 : lt8 p (l[atF p l]).f0 := Decidable.byContradiction fun c => hne (lt8_tri (hs.2 _ List.mem_cons_self) c)
      rw [hd]
      intro y hy
      rcases List.mem_cons.1 hy with rfl | hy
      · exact h0
      · exact lt8_trans h0 (g1 y hy)
  · rw [decide_eq_false h, Bool.false_and]
    refine .inr ⟨rfl, ?_⟩
    rw [List.drop_eq_nil_iff.2 (by omega)]
    intro y hy; cases hy
/-- Files but that of a path. -/
def outB (p : ByteArray) (l : List S49) : List S49 := l.filter (fun x => !(x.f0.toList == p.toList))
/-- Files, and one more, where it belongs. -/
def inB (f : S49) : List S49 → List S49
  | [] => [f]
  | x :: r => if Op.bytesLess f.f0.toList x.f0.toList = true then f :: x :: r else x :: inB f r
theorem outB_ne {p : ByteArray} : ∀ {l : List S49}, (∀ x ∈ l, x.f0 ≠ p) → outB p l = l
  | [], _ => rfl
  | x :: r, h => by
    have hx : (x.f0.toList == p.toList) = false := beq_eq_false_iff_ne.2 (fun c => h x List.mem_cons_self (tl_eq c))
    have ih := outB_ne (fun y hy => h y (List.mem_cons_of_mem _ hy)) (l := r)
    unfold outB at *
    rw [List.filter_cons_of_pos (by rw [hx]; rfl), ih]
theorem outB_append (p : ByteArray) (l m : List S49) : outB p (l ++ m) = outB p l ++ outB p m := List.filter_append ..
theorem inB_pre (f : S49) (post : List S49) (hpost : ∀ y ∈ post, lt8 f.f0 y.f0) : ∀ (pre : List S49), (∀ x ∈ pre, lt8 x.f0 f.f0) → inB f (pre ++ post) = pre ++ f :: post
  | [], _ => by
    cases post with
    | nil => rfl
    | cons y r => rw [List.nil_append, inB, if_pos (by rw [less_lt]; exact decide_eq_true (hpost y List.mem_cons_self))]; rfl
  | x :: pre, h => by
    rw [List.cons_append, inB, if_neg (by rw [less_lt]; simp only [decide_eq_true_eq]; exact fun c => lt8_irr _ (lt8_trans c (h x List.mem_cons_self))), inB_pre f post hpost pre (fun y hy => h y (List.mem_cons_of_mem _ hy))]
    rfl
theorem getB_none {p : ByteArray} : ∀ {l : List S49}, (∀ x ∈ l, x.f0 ≠ p) → getB p l = (⟨#[]⟩, false)
  | [], _ => rfl
  | x :: r, h => by
    rw [getB, if_neg (fun c => h x List.mem_cons_self (tl_eq (beq_iff_eq.1 c))), getB_none (fun y hy => h y (List.mem_cons_of_mem _ hy))]
theorem getB_at {p : ByteArray} {x : S49} (hx : x.f0 = p) (post : List S49) : ∀ {pre : List S49}, (∀ y ∈ pre, y.f0 ≠ p) → getB p (pre ++ x :: post) = (x.f1, true)
  | [], _ => by rw [List.nil_append, getB, if_pos (by rw [hx]; exact beq_self_eq_true _)]
  | y :: r, h => by
    rw [List.cons_append, getB, if_neg (fun c => h y List.mem_cons_self (tl_eq (beq_iff_eq.1 c))), getB_at hx post (fun z hz => h z (List.mem_cons_of_mem _ hz))]
theorem ne_of_lt {a b : ByteArray} (h : lt8 a b) : a ≠ b := fun e => lt8_irr b (e ▸ h)
/-- Where a path stands among files that rise. -/
theorem place (l : List S49) (p : ByteArray) (ha : Asc l) :
    (isF p l = true ∧ ∃ pre x post, l = pre ++ x :: post ∧ pre.length = atF p l ∧ x.f0 = p ∧ (∀ y ∈ pre, lt8 y.f0 p) ∧ (∀ y ∈ post, lt8 p y.f0)) ∨
    (isF p l = false ∧ ∃ pre post, l = pre ++ post ∧ pre.length = atF p l ∧ (∀ y ∈ pre, lt8 y.f0 p) ∧ (∀ y ∈ post, lt8 p y.f0)) := by
  have hs := at_split l p ha
  have hle := atF_le p l
  rcases isF_split l p ha with ⟨h1, x, r, h2, h3, h4⟩ | ⟨h1, h2⟩
  · exact .inl ⟨h1, l.take (atF p l), x, r, by rw [← h2, List.take_append_drop], by rw [List.length_take]; omega, h3, hs.1, h4⟩
  · exact .inr ⟨h1, l.take (atF p l), l.drop (atF p l), (List.take_append_drop ..).symm, by rw [List.length_take]; omega, hs.1, h2⟩
theorem is_get (l : List S49) (p : ByteArray) (ha : Asc l) : (getB p l).2 = isF p l := by
  rcases place l p ha with ⟨h1, pre, x, post, rfl, _, hx, h2, h3⟩ | ⟨h1, pre, post, rfl, _, h2, h3⟩
  · rw [h1, getB_at hx post (fun y hy => ne_of_lt (h2 y hy))]
  · rw [h1, getB_none]
    intro y hy
    rcases List.mem_append.1 hy with hy | hy
    · exact ne_of_lt (h2 y hy)
    · exact (ne_of_lt (h3 y hy)).symm
theorem erase_out (l : List S49) (p : ByteArray) (ha : Asc l) (hi : isF p l = true) : l.eraseIdx (atF p l) = outB p l := by
  rcases place l p ha with ⟨h1, pre, x, post, hl, hn, hx, h2, h3⟩ | ⟨h1, _⟩
  · rw [← hn]
    have e : outB p l = pre ++ post := by
      rw [hl, outB_append, outB_ne (fun y hy => ne_of_lt (h2 y hy))]
      congr 1
      show List.filter _ (x :: post) = post
      rw [List.filter_cons_of_neg (by rw [hx]; simp)]
      exact outB_ne (fun y hy => (ne_of_lt (h3 y hy)).symm)
    rw [e]
    subst hl
    rw [List.eraseIdx_append_of_length_le (Nat.le_refl _), Nat.sub_self]
    rfl
  · rw [hi] at h1; cases h1
theorem out_none (l : List S49) (p : ByteArray) (ha : Asc l) (hi : isF p l = false) : outB p l = l := by
  rcases place l p ha with ⟨h1, _⟩ | ⟨h1, pre, post, rfl, _, h2, h3⟩
  · rw [hi] at h1; cases h1
  · refine outB_ne (fun y hy => ?_)
    rcases List.mem_append.1 hy with hy | hy
    · exact ne_of_lt (h2 y hy)
    · exact (ne_of_lt (h3 y hy)).symm
theorem set_in (l : List S49) (p d : ByteArray) (ha : Asc l) (hi : isF p l = true) : l.set (atF p l) ⟨(rd_T49 l (atF p l : Int)).f0, d⟩ = inB ⟨p, d⟩ (outB p l) := by
  rw [← erase_out l p ha hi]
  rcases place l p ha with ⟨h1, pre, x, post, hl, hn, hx, h2, h3⟩ | ⟨h1, _⟩
  · generalize atF p l = a at *
    subst hn
    subst hl
    have hlt : pre.length < (pre ++ x :: post).length := by rw [List.length_append, List.length_cons]; omega
    rw [rdF_get _ _ hlt, List.getElem_append_right (Nat.le_refl _)]
    have hgx : (x :: post)[pre.length - pre.length]'(by simp) = x := by simp
    rw [hgx, hx, List.set_append_right _ _ (Nat.le_refl _), Nat.sub_self, List.eraseIdx_append_of_length_le (Nat.le_refl _), Nat.sub_self]
    exact (inB_pre ⟨p, d⟩ post h3 pre h2).symm
  · rw [hi] at h1; cases h1
theorem ins_in (l : List S49) (p d : ByteArray) (ha : Asc l) (hi : isF p l = false) : l.take (atF p l) ++ ⟨p, d⟩ :: l.drop (atF p l) = inB ⟨p, d⟩ l := by
  rcases place l p ha with ⟨h1, _⟩ | ⟨h1, pre, post, hl, hn, h2, h3⟩
  · rw [hi] at h1; cases h1
  · rw [← hn]
    subst hl
    rw [List.take_left, List.drop_left]
    exact (inB_pre ⟨p, d⟩ post h3 pre h2).symm
/-- One op, as the document tells it. -/
def stepR (l : List S49) (o : S45) : List S49 × Int :=
  if pathB o.f1 = true then
    (if o.f0 = true then (if (getB o.f1 l).2 = true then (outB o.f1 l, 0) else ([], 5))
    else if o.f2.size > 4096 then ([], 2)
    else if (outB o.f1 l).length ≥ 40 then ([], 3)
    else (inB ⟨o.f1, o.f2⟩ (outB o.f1 l), 0))
  else ([], 6)
theorem step_eq (l : List S49) (o : S45) (hm : mayB l = true) : (stepF l o).2 = (stepR l o).2 ∧ ((stepR l o).2 = 0 → (stepF l o).1 = (stepR l o).1) ∧ ((stepR l o).2 ≠ 0 → (stepR l o).1 = []) := by
  obtain ⟨hl, ha, hok⟩ := (may_iff l).1 hm
  unfold stepF stepR
  by_cases h1 : pathB o.f1 = true
  · rw [if_pos h1, if_pos h1]
    by_cases h2 : o.f0 = true
    · rw [if_pos h2, if_pos h2, is_get l _ ha]
      by_cases h3 : isF o.f1 l = true
      · rw [if_pos h3, if_pos h3]
        exact ⟨rfl, fun _ => erase_out l _ ha h3, fun h => absurd rfl h⟩
      · rw [if_neg h3, if_neg h3]
        exact ⟨rfl, fun h => absurd h (by decide), fun _ => rfl⟩
    · rw [if_neg h2, if_neg h2]
      by_cases h4 : o.f2.size > 4096
      · rw [if_pos h4, if_pos h4]
        exact ⟨rfl, fun h => absurd h (by decide), fun _ => rfl⟩
      · rw [if_neg h4, if_neg h4]
        by_cases h3 : isF o.f1 l = true
        · rw [if_pos h3]
          have hlen : (outB o.f1 l).length < 40 := by
            rw [← erase_out l _ ha h3]
            have hx : atF o.f1 l < l.length := by
              unfold isF at h3
              have := (Bool.and_eq_true_iff.1 h3).1
              simpa using this
            rw [List.length_eraseIdx_of_lt hx]; omega
          rw [if_neg (by omega)]
          exact ⟨rfl, fun _ => set_in l _ _ ha h3, fun h => absurd rfl h⟩
        · have h3' : isF o.f1 l = false := by simpa using h3
          rw [if_neg h3, out_none l _ ha h3']
          by_cases h5 : l.length = 40
          · rw [if_pos h5, if_pos (by omega)]
            exact ⟨rfl, fun h => absurd h (by decide), fun _ => rfl⟩
          · rw [if_neg h5, if_neg (by omega)]
            exact ⟨rfl, fun _ => ins_in l _ _ ha h3', fun h => absurd rfl h⟩
  · rw [if_neg h1, if_neg h1]
    exact ⟨rfl, fun h => absurd h (by decide), fun _ => rfl⟩
theorem inB_mem (f : S49) : ∀ (l : List S49) (y : S49), y ∈ inB f l ↔ (y = f ∨ y ∈ l)
  | [], y => by simp [inB]
  | x :: r, y => by
    rw [inB]
    split
    · simp
    · rw [List.mem_cons, inB_mem f r y, List.mem_cons]
      constructor
      · rintro (h | h | h)
        · exact .inr (.inl h)
        · exact .inl h
        · exact .inr (.inr h)
      · rintro (h | h | h)
        · exact .inr (.inl h)
        · exact .inl h
        · exact .inr (.inr h)
theorem inB_len (f : S49) : ∀ (l : List S49), (inB f l).length = l.length + 1
  | [] => rfl
  | x :: r => by
    rw [inB]
    split
    · rfl
    · rw [List.length_cons, inB_len f r, List.length_cons]
theorem inB_asc (f : S49) : ∀ (l : List S49), Asc l → (∀ y ∈ l, y.f0 ≠ f.f0) → Asc (inB f l)
  | [], _, _ => by simp [inB, Asc]
  | x :: r, ha, hne => by
    obtain ⟨g1, g2⟩ := List.pairwise_cons.1 ha
    rw [inB, less_lt]
    by_cases h : lt8 f.f0 x.f0
    · rw [if_pos (decide_eq_true h)]
      refine List.pairwise_cons.2 ⟨fun y hy => ?_, ha⟩
      rcases List.mem_cons.1 hy with rfl | hy
      · exact h
      · exact lt8_trans h (g1 y hy)
    · rw [if_neg (fun c => h (of_decide_eq_true c))]
      refine List.pairwise_cons.2 ⟨fun y hy => ?_, inB_asc f r g2 (fun y hy => hne y (List.mem_cons_of_mem _ hy))⟩
      rcases (inB_mem f r y).1 hy with rfl | hy
      · exact Decidable.byContradiction fun c => hne x List.mem_cons_self (lt8_tri c h)
      · exact g1 y hy
theorem outB_mem (p : ByteArray) (l : List S49) (y : S49) : y ∈ outB p l ↔ (y ∈ l ∧ y.f0 ≠ p) := by
  unfold outB
  rw [List.mem_filter]
  constructor
  · rintro ⟨h1, h2⟩; exact ⟨h1, fun c => by rw [c] at h2; simp at h2⟩
  · rintro ⟨h1, h2⟩; exact ⟨h1, by rw [show (y.f0.toList == p.toList) = false from beq_eq_false_iff_ne.2 (fun c => h2 (tl_eq c))]; rfl⟩
theorem outB_asc (p : ByteArray) (l : List S49) (h : Asc l) : Asc (outB p l) := List.Pairwise.filter _ h
theorem outB_len (p : ByteArray) (l : List S49) : (outB p l).length ≤ l.length := List.length_filter_le _ _
theorem step_may (l : List S49) (o : S45) (hm : mayB l = true) (h0 : (stepR l o).2 = 0) : mayB (stepR l o).1 = true := by
  obtain ⟨hl, ha, hok⟩ := (may_iff l).1 hm
  have hlo := outB_len o.f1 l
  revert h0
  unfold stepR
  by_cases h1 : pathB o.f1 = true
  · rw [if_pos h1]
    by_cases h2 : o.f0 = true
    · rw [if_pos h2]
      split
      · intro _
        exact (may_iff _).2 ⟨by dsimp only; omega, outB_asc _ l ha, fun y hy => hok y ((outB_mem _ l y).1 hy).1⟩
      · intro h; exact absurd h (by decide)
    · rw [if_neg h2]
      by_cases h4 : o.f2.size > 4096
      · rw [if_pos h4]; intro h; exact absurd h (by decide)
      · rw [if_neg h4]
        split
        · intro h; exact absurd h (by decide)
        · intro _
          rename_i h5
          refine (may_iff _).2 ⟨by rw [inB_len]; omega, inB_asc _ _ (outB_asc _ l ha) (fun y hy => ((outB_mem _ l y).1 hy).2), fun y hy => ?_⟩
          rcases (inB_mem _ _ y).1 hy with rfl | hy
          · exact ⟨h1, by dsimp only; omega⟩
          · exact hok y ((outB_mem _ l y).1 hy).1
  · rw [if_neg h1]; intro h; exact absurd h (by decide)
/-- Ops, one behind the other, as the document tells it. -/
def runR : List S49 → List S45 → List S49 × Int
  | xs, [] => (xs, 0)
  | xs, o :: r => if (stepR xs o).2 = 0 then runR (stepR xs o).1 r else ([], (stepR xs o).2)
theorem run_eq : ∀ (ops : List S45) (l : List S49), mayB l = true → runF l ops = runR l ops
  | [], _, _ => rfl
  | o :: r, l, hm => by
    obtain ⟨h1, h2, h3⟩ := step_eq l o hm
    rw [runF, runR, h1]
    by_cases h : (stepR l o).2 = 0
    · rw [if_pos h, if_pos h, h2 h, run_eq r _ (step_may l o hm h)]
    · rw [if_neg h, if_neg h]
theorem runR_may : ∀ (ops : List S45) (l : List S49), mayB l = true → (runR l ops).2 = 0 → mayB (runR l ops).1 = true
  | [], _, h, _ => h
  | o :: r, l, hm, h0 => by
    rw [runR] at *
    by_cases h : (stepR l o).2 = 0
    · rw [if_pos h] at *; exact runR_may r _ (step_may l o hm h) h0
    · rw [if_neg h] at h0; exact absurd h0 h
theorem runR_bad : ∀ (ops : List S45) (l : List S49), (runR l ops).2 ≠ 0 → (runR l ops).1 = []
  | [], _, h => absurd rfl h
  | o :: r, l, h0 => by
    rw [runR] at *
    by_cases h : (stepR l o).2 = 0
    · rw [if_pos h] at *; exact runR_bad r _ h0
    · rw [if_neg h]
end Go.Proofs.YtnhhbmekjoanbaaDoor.P
namespace Go.Proofs.YtnhhbmekjoanbaaDoor.P
open Go.RowKit Go.Proofs.YtnhhbmekjoanbaaDoorW.PrintWords Go.Proofs.YtnhhbmekjoanbaaDoorW.PrintLast Go.Proofs.YtnhhbmekjoanbaaDoorW.PrintMore
set_option linter.unusedVariables false
def goneO (x : S49) : S45 := ⟨true, x.f0, ⟨#[]⟩⟩
def putO (x : S49) : S45 := ⟨false, x.f0, x.f1⟩
/-- Both lists, side by side. -/
def mergeD : Nat → List S49 → List S49 → List S45
  | 0, _, _ => []
  | n + 1, [], [] => []
  | n + 1, x :: a, [] => goneO x :: mergeD n a []
  | n + 1, [], y :: b => putO y :: mergeD n [] b
  | n + 1, x :: a, y :: b =>
    if Op.bytesLess x.f0.toList y.f0.toList = true then goneO x :: mergeD n a (y :: b)
    else if Op.bytesLess y.f0.toList x.f0.toList = true then putO y :: mergeD n (x :: a) b
    else if x.f1.toList = y.f1.toList then mergeD n a b else putO y :: mergeD n a b
def inD (a b : List S49) (o : S45) : Prop := (∃ x ∈ a, o = goneO x ∧ ∀ y ∈ b, y.f0 ≠ x.f0) ∨ (∃ y ∈ b, o = putO y ∧ y ∉ a)
theorem asc_cons {x : S49} {a : List S49} (h : Asc (x :: a)) : (∀ y ∈ a, lt8 x.f0 y.f0) ∧ Asc a := List.pairwise_cons.1 h
theorem mergeD_mem : ∀ (n : Nat) (a b : List S49), a.length + b.length ≤ n → Asc a → Asc b → ∀ o, o ∈ mergeD n a b ↔ inD a b o
  | 0, a, b, h, _, _, o => by
    have ha : a = [] := List.eq_nil_of_length_eq_zero (by omega)
    have hb : b = [] := List.eq_nil_of_length_eq_zero (by omega)
    subst ha; subst hb
    simp [mergeD, inD]
  | n + 1, [], [], _, _, _, o => by simp [mergeD, inD]
  | n + 1, x :: a, [], h, ha, hb, o => by
    have ih := mergeD_mem n a [] (by simp at h ⊢; omega) (asc_cons ha).2 hb o
    rw [mergeD, List.mem_cons, ih]
    simp [inD]
  | n + 1, [], y :: b, h, ha, hb, o => by
    have ih := mergeD_mem n [] b (by simp at h ⊢; omega) ha (asc_cons hb).2 o
    rw [mergeD, List.mem_cons, ih]
    simp [inD]
  | n + 1, x :: a, y :: b, h, ha, hb, o => by
    obtain ⟨ga, ha'⟩ := asc_cons ha
    obtain ⟨gb, hb'⟩ := asc_cons hb
    simp only [List.length_cons] at h
    rw [mergeD, less_lt, less_lt]
    by_cases h1 : lt8 x.f0 y.f0
    · rw [if_pos (decide_eq_true h1), List.mem_cons, mergeD_mem n a (y :: b) (by rw [List.length_cons]; omega) ha' hb o]
      have hx : ∀ z ∈ y :: b, z.f0 ≠ x.f0 := fun z hz => by
        rcases List.mem_cons.1 hz with rfl | hz
        · exact (ne_of_lt h1).symm
        · exact (ne_of_lt (lt8_trans h1 (gb z hz))).symm
      unfold inD
      constructor
      · rintro (rfl | ⟨z, hz, rfl, h2⟩ | ⟨z, hz, rfl, h2⟩)
        · exact .inl ⟨x, List.mem_cons_self, rfl, hx⟩
        · exact .inl ⟨z, List.mem_cons_of_mem _ hz, rfl, h2⟩
        · exact .inr ⟨z, hz, rfl, fun c => (List.mem_cons.1 c).elim (fun e => hx z hz (by rw [e])) h2⟩
      · rintro (⟨z, hz, rfl, h2⟩ | ⟨z, hz, rfl, h2⟩)
        · rcases List.mem_cons.1 hz with rfl | hz
          · exact .inl rfl
          · exact .inr (.inl ⟨z, hz, rfl, h2⟩)
        · exact .inr (.inr ⟨z, hz, rfl, fun c => h2 (List.mem_cons_of_mem _ c)⟩)
    · rw [if_neg (fun c => h1 (of_decide_eq_true c))]
      by_cases h2 : lt8 y.f0 x.f0
      · rw [if_pos (decide_eq_true h2), List.mem_cons, mergeD_mem n (x :: a) b (by rw [List.length_cons]; omega) ha hb' o]
        have hy : ∀ z ∈ x :: a, y.f0 ≠ z.f0 := fun z hz => by
          rcases List.mem_cons.1 hz with rfl | hz
          · exact ne_of_lt h2
          · exact ne_of_lt (lt8_trans h2 (ga z hz))
        unfold inD
        constructor
        · rintro (rfl | ⟨z, hz, rfl, h3⟩ | ⟨z, hz, rfl, h3⟩)
          · exact .inr ⟨y, List.mem_cons_self, rfl, fun c => hy y c rfl⟩
          · exact .inl ⟨z, hz, rfl, fun w hw => (List.mem_cons.1 hw).elim (fun e => by rw [e]; exact hy z hz) (h3 w)⟩
          · exact .inr ⟨z, List.mem_cons_of_mem _ hz, rfl, h3⟩
        · rintro (⟨z, hz, rfl, h3⟩ | ⟨z, hz, rfl, h3⟩)
          · exact .inr (.inl ⟨z, hz, rfl, fun w hw => h3 w (List.mem_cons_of_mem _ hw)⟩)
          · rcases List.mem_cons.1 hz with rfl | hz
            · exact .inl rfl
            · exact .inr (.inr ⟨z, hz, rfl, h3⟩)
      · rw [if_neg (fun c => h2 (of_decide_eq_true c))]
        have hxy : x.f0 = y.f0 := lt8_tri h1 h2
        have hay : ∀ z ∈ a, lt8 y.f0 z.f0 := fun z hz => by rw [← hxy]; exact ga z hz
        have hbx : ∀ z ∈ b, lt8 x.f0 z.f0 := fun z hz => by rw [hxy]; exact gb z hz
        have ih := mergeD_mem n a b (by omega) ha' hb' o
        -- what holds both ways
        have key : (∃ z ∈ a, o = goneO z ∧ ∀ w ∈ b, w.f0 ≠ z.f0) ∨ (∃ z ∈ b, o = putO z ∧ z ∉ a) ↔ (∃ z ∈ x :: a, o = goneO z ∧ ∀ w ∈ y :: b, w.f0 ≠ z.f0) ∨ (∃ z ∈ b, o = putO z ∧ z ∉ x :: a) := by
          constructor
          · rintro (⟨z, hz, h3, h4⟩ | ⟨z, hz, h3, h4⟩)
            · exact .inl ⟨z, List.mem_cons_of_mem _ hz, h3, fun w hw => (List.mem_cons.1 hw).elim (fun e => by rw [e]; exact ne_of_lt (hay z hz)) (h4 w)⟩
            · exact .inr ⟨z, hz, h3, fun c => (List.mem_cons.1 c).elim (fun e => ne_of_lt (hbx z hz) (by rw [e])) h4⟩
          · rintro (⟨z, hz, h3, h4⟩ | ⟨z, hz, h3, h4⟩)
            · rcases List.mem_cons.1 hz with rfl | hz
              · exact absurd hxy.symm (h4 y List.mem_cons_self)
              · exact .inl ⟨z, hz, h3, fun w hw => h4 w (List.mem_cons_of_mem _ hw)⟩
            · exact .inr ⟨z, hz, h3, fun c => h4 (List.mem_cons_of_mem _ c)⟩
        by_cases h5 : x.f1.toList = y.f1.toList
        · rw [if_pos h5, ih]
          have exy : x = y := by
            obtain ⟨x0, x1⟩ := x
            obtain ⟨y0, y1⟩ := y
            dsimp only at hxy h5
            rw [hxy, tl_eq h5]
          unfold inD
          rw [key]
          constructor
          · rintro (h6 | ⟨z, hz, h6⟩)
            · exact .inl h6
            · exact .inr ⟨z, List.mem_cons_of_mem _ hz, h6⟩
          · rintro (h6 | ⟨z, hz, h6, h7⟩)
            · exact .inl h6
            · rcases List.mem_cons.1 hz with rfl | hz
              · exact absurd (by rw [exy]; exact List.mem_cons_self) h7
              · exact .inr ⟨z, hz, h6, h7⟩
        · rw [if_neg h5, List.mem_cons, ih]
          unfold inD
          rw [key]
          have hyn : y ∉ x :: a := fun c => (List.mem_cons.1 c).elim (fun e => h5 (by rw [e])) (fun c => lt8_irr _ (hay y c))
          constructor
          · rintro (rfl | h6 | ⟨z, hz, h6⟩)
            · exact .inr ⟨y, List.mem_cons_self, rfl, hyn⟩
            · exact .inl h6
            · exact .inr ⟨z, List.mem_cons_of_mem _ hz, h6⟩
          · rintro (h6 | ⟨z, hz, h6, h7⟩)
            · exact .inr (.inl h6)
            · rcases List.mem_cons.1 hz with rfl | hz
              · exact .inl h6
              · exact .inr (.inr ⟨z, hz, h6, h7⟩)
def AscO (l : List S45) : Prop := l.Pairwise (fun x y => lt8 x.f1 y.f1)
theorem inD_path {a b : List S49} {o : S45} (h : inD a b o) : (∃ x ∈ a, o.f1 = x.f0) ∨ (∃ y ∈ b, o.f1 = y.f0) := by
  rcases h with ⟨x, hx, rfl, _⟩ | ⟨y, hy, rfl, _⟩
  · exact .inl ⟨x, hx, rfl⟩
  · exact .inr ⟨y, hy, rfl⟩
theorem mergeD_asc : ∀ (n : Nat) (a b : List S49), a.length + b.length ≤ n → Asc a → Asc b → AscO (mergeD n a b)
  | 0, a, b, h, _, _ => by simp [mergeD, AscO]
  | n + 1, [], [], _, _, _ => by simp [mergeD, AscO]
  | n + 1, x :: a, [], h, ha, hb => by
    have hn : a.length + ([] : List S49).length ≤ n := by simp at h ⊢; omega
    rw [mergeD]
    refine List.pairwise_cons.2 ⟨fun o ho => ?_, mergeD_asc n a [] hn (asc_cons ha).2 hb⟩
    rcases inD_path ((mergeD_mem n a [] hn (asc_cons ha).2 hb o).1 ho) with ⟨z, hz, e⟩ | ⟨z, hz, e⟩
    · rw [e]; exact (asc_cons ha).1 z hz
    · cases hz
  | n + 1, [], y :: b, h, ha, hb => by
    have hn : ([] : List S49).length + b.length ≤ n := by simp at h ⊢; omega
    rw [mergeD]
    refine List.pairwise_cons.2 ⟨fun o ho => ?_, mergeD_asc n [] b hn ha (asc_cons hb).2⟩
    rcases inD_path ((mergeD_mem n [] b hn ha (asc_cons hb).2 o).1 ho) with ⟨z, hz, e⟩ | ⟨z, hz, e⟩
    · cases hz
    · rw [e]; exact (asc_cons hb).1 z hz
  | n + 1, x :: a, y :: b, h, ha, hb => by
    obtain ⟨ga, ha'⟩ := asc_cons ha
    obtain ⟨gb, hb'⟩ := asc_cons hb
    simp only [List.length_cons] at h
    rw [mergeD, less_lt, less_lt]
    by_cases h1 : lt8 x.f0 y.f0
    · have hn : a.length + (y :: b).length ≤ n := by rw [List.length_cons]; omega
      rw [if_pos (decide_eq_true h1)]
      refine List.pairwise_cons.2 ⟨fun o ho => ?_, mergeD_asc n a (y :: b) hn ha' hb⟩
      rcases inD_path ((mergeD_mem n a (y :: b) hn ha' hb o).1 ho) with ⟨z, hz, e⟩ | ⟨z, hz, e⟩
      · rw [e]; exact ga z hz
      · rw [e]
        rcases List.mem_cons.1 hz with rfl | hz
        · exact h1
        · exact lt8_trans h1 (gb z hz)
    · rw [if_neg (fun c => h1 (of_decide_eq_true c))]
      by_cases h2 : lt8 y.f0 x.f0
      · have hn : (x :: a).length + b.length ≤ n := by rw [List.length_cons]; omega
        rw [if_pos (decide_eq_true h2)]
        refine List.pairwise_cons.2 ⟨fun o ho => ?_, mergeD_asc n (x :: a) b hn ha hb'⟩
        rcases inD_path ((mergeD_mem n (x :: a) b hn ha hb' o).1 ho) with ⟨z, hz, e⟩ | ⟨z, hz, e⟩
        · rw [e]
          rcases List.mem_cons.1 hz with rfl | hz
          · exact h2
          · exact lt8_trans h2 (ga z hz)
        · rw [e]; exact gb z hz
      · rw [if_neg (fun c => h2 (of_decide_eq_true c))]
        have hxy : x.f0 = y.f0 := lt8_tri h1 h2
        have hn : a.length + b.length ≤ n := by omega
        split
        · exact mergeD_asc n a b hn ha' hb'
        · refine List.pairwise_cons.2 ⟨fun o ho => ?_, mergeD_asc n a b hn ha' hb'⟩
          rcases inD_path ((mergeD_mem n a b hn ha' hb' o).1 ho) with ⟨z, hz, e⟩ | ⟨z, hz, e⟩
          · rw [e]; show lt8 y.f0 z.f0; rw [← hxy]; exact ga z hz
          · rw [e]; exact gb z hz
theorem getB_has {x : S49} {l : List S49} (ha : Asc l) (hx : x ∈ l) : getB x.f0 l = (x.f1, true) := by
  obtain ⟨s, t, rfl⟩ := List.append_of_mem hx
  refine getB_at rfl t (fun y hy => ?_)
  exact ne_of_lt ((List.pairwise_append.1 ha).2.2 y hy x List.mem_cons_self)
theorem getB_true {p : ByteArray} : ∀ {l : List S49}, (getB p l).2 = true → ∃ x ∈ l, x.f0 = p ∧ (getB p l).1 = x.f1
  | [], h => by cases h
  | x :: r, h => by
    rw [getB] at h ⊢
    split at h
    · rename_i h1
      rw [if_pos h1]
      exact ⟨x, List.mem_cons_self, tl_eq (beq_iff_eq.1 h1), rfl⟩
    · rename_i h1
      rw [if_neg h1]
      obtain ⟨y, hy, h2, h3⟩ := getB_true h
      exact ⟨y, List.mem_cons_of_mem _ hy, h2, h3⟩
theorem gone_iff (b : List S49) (hb : Asc b) : ∀ (a : List S49) (o : S45), o ∈ goneB b a ↔ ∃ x ∈ a, o = goneO x ∧ ∀ y ∈ b, y.f0 ≠ x.f0
  | [], o => by simp [goneB]
  | x :: r, o => by
    have hg : (getB x.f0 b).2 = true ↔ ¬ ∀ y ∈ b, y.f0 ≠ x.f0 := by
      constructor
      · intro h c
        obtain ⟨y, hy, h2, _⟩ := getB_true h
        exact c y hy h2
      · intro h
        refine Classical.byContradiction fun c => h (fun y hy e => c ?_)
        rw [← e, getB_has hb hy]
    rw [goneB]
    by_cases h : (getB x.f0 b).2 = true
    · rw [if_pos h, gone_iff b hb r o]
      constructor
      · rintro ⟨z, hz, h2⟩; exact ⟨z, List.mem_cons_of_mem _ hz, h2⟩
      · rintro ⟨z, hz, h2, h3⟩
        rcases List.mem_cons.1 hz with rfl | hz
        · exact absurd h3 (hg.1 h)
        · exact ⟨z, hz, h2, h3⟩
    · rw [if_neg h, List.mem_cons, gone_iff b hb r o]
      constructor
      · rintro (rfl | ⟨z, hz, h2⟩)
        · exact ⟨x, List.mem_cons_self, rfl, Classical.byContradiction fun c => h (hg.2 c)⟩
        · exact ⟨z, List.mem_cons_of_mem _ hz, h2⟩
      · rintro ⟨z, hz, h2, h3⟩
        rcases List.mem_cons.1 hz with rfl | hz
        · exact .inl h2
        · exact .inr ⟨z, hz, h2, h3⟩
theorem put_iff (a : List S49) (ha : Asc a) : ∀ (b : List S49) (o : S45), o ∈ putB a b ↔ ∃ y ∈ b, o = putO y ∧ y ∉ a
  | [], o => by simp [putB]
  | x :: r, o => by
    have hg : ((getB x.f0 a).2 = true ∧ ((getB x.f0 a).1.toList == x.f1.toList) = true) ↔ x ∈ a := by
      constructor
      · rintro ⟨h1, h2⟩
        obtain ⟨y, hy, h3, h4⟩ := getB_true h1
        rw [h4] at h2
        have : y = x := by
          obtain ⟨y0, y1⟩ := y
          obtain ⟨x0, x1⟩ := x
          dsimp only at h3 h2
          rw [h3, tl_eq (beq_iff_eq.1 h2)]
        rw [← this]; exact hy
      · intro h
        rw [getB_has ha h]
        exact ⟨rfl, beq_self_eq_true _⟩
    rw [putB]
    by_cases h : x ∈ a
    · rw [if_pos (hg.2 h), put_iff a ha r o]
      constructor
      · rintro ⟨z, hz, h2⟩; exact ⟨z, List.mem_cons_of_mem _ hz, h2⟩
      · rintro ⟨z, hz, h2, h3⟩
        rcases List.mem_cons.1 hz with rfl | hz
        · exact absurd h h3
        · exact ⟨z, hz, h2, h3⟩
    · rw [if_neg (fun c => h (hg.1 c)), List.mem_cons, put_iff a ha r o]
      constructor
      · rintro (rfl | ⟨z, hz, h2⟩)
        · exact ⟨x, List.mem_cons_self, rfl, h⟩
        · exact ⟨z, List.mem_cons_of_mem _ hz, h2⟩
      · rintro ⟨z, hz, h2, h3⟩
        rcases List.mem_cons.1 hz with rfl | hz
        · exact .inl h2
        · exact .inr ⟨z, hz, h2, h3⟩
theorem ascO_nodup {l : List S45} (h : AscO l) : l.Nodup := by
  refine List.Pairwise.imp ?_ h
  intro x y hxy e
  subst e
  exact lt8_irr _ hxy
theorem gone_asc (b : List S49) (hb : Asc b) : ∀ (a : List S49), Asc a → AscO (goneB b a)
  | [], _ => by simp [goneB, AscO]
  | x :: r, ha => by
    obtain ⟨g1, g2⟩ := asc_cons ha
    rw [goneB]
    split
    · exact gone_asc b hb r g2
    · refine List.pairwise_cons.2 ⟨fun o ho => ?_, gone_asc b hb r g2⟩
      obtain ⟨z, hz, rfl, _⟩ := (gone_iff b hb r o).1 ho
      exact g1 z hz
theorem put_asc (a : List S49) (ha : Asc a) : ∀ (b : List S49), Asc b → AscO (putB a b)
  | [], _ => by simp [putB, AscO]
  | x :: r, hb => by
    obtain ⟨g1, g2⟩ := asc_cons hb
    rw [putB]
    split
    · exact put_asc a ha r g2
    · refine List.pairwise_cons.2 ⟨fun o ho => ?_, put_asc a ha r g2⟩
      obtain ⟨z, hz, rfl, _⟩ := (put_iff a ha r o).1 ho
      exact g1 z hz
/-- The difference of two rows of files. -/
def diffD (a b : List S49) : List S45 := if (mayB a && mayB b) = true then mergeD (a.length + b.length) a b else []
theorem diff_f (a b : List S49) : files_Diff.f a b = some (diffD a b) := by
  unfold files_Diff.f diffD
  by_cases h : (mayB a && mayB b) = true
  · rw [if_pos h, if_pos h]
    obtain ⟨hma, hmb⟩ := Bool.and_eq_true_iff.1 h
    have ha := ((may_iff a).1 hma).2.1
    have hb := ((may_iff b).1 hmb).2.1
    have hasc := mergeD_asc (a.length + b.length) a b (Nat.le_refl _) ha hb
    congr 1
    symm
    refine ord_one (diff_apart a b hmb) ?_ ?_
    · rw [List.perm_ext_iff_of_nodup (ascO_nodup hasc)]
      · intro o
        rw [mergeD_mem _ a b (Nat.le_refl _) ha hb, List.mem_append, gone_iff b hb, put_iff a ha]
        exact Iff.rfl
      · rw [List.nodup_append]
        refine ⟨ascO_nodup (gone_asc b hb a ha), ascO_nodup (put_asc a ha b hb), ?_⟩
        intro x hx y hy e
        obtain ⟨p, _, rfl, _⟩ := (gone_iff b hb a x).1 hx
        obtain ⟨q, _, rfl, _⟩ := (put_iff a ha b y).1 hy
        exact absurd (congrArg (·.f0) e) (by simp [goneO, putO])
    · refine hasc.imp ?_
      intro x y hxy c
      rw [cmpS_lt] at c
      exact lt8_irr _ (lt8_trans hxy c)
  · rw [if_neg h, if_neg h]
end Go.Proofs.YtnhhbmekjoanbaaDoor.P
set_option linter.unusedVariables false
set_option linter.unusedSimpArgs false
namespace Go.Proofs.YtnhhbmekjoanbaaDoor.P
open Go.RowKit Go.Proofs.YtnhhbmekjoanbaaDoorW.PrintWords Go.Proofs.YtnhhbmekjoanbaaDoorW.PrintLast Go.Proofs.YtnhhbmekjoanbaaDoorW.PrintMore
theorem getB_cons (q : ByteArray) (x : S49) (r : List S49) : getB q (x :: r) = if x.f0 = q then (x.f1, true) else getB q r := by
  rw [getB]
  by_cases h : x.f0 = q
  · rw [if_pos h, if_pos (by rw [h]; exact beq_self_eq_true _)]
  · rw [if_neg h, if_neg (fun c => h (tl_eq (beq_iff_eq.1 c)))]
theorem getB_out (q p : ByteArray) (h : q ≠ p) : ∀ l : List S49, getB q (outB p l) = getB q l
  | [] => rfl
  | x :: r => by
    have ih := getB_out q p h r
    unfold outB at ih ⊢
    by_cases hx : x.f0 = p
    · rw [List.filter_cons_of_neg (by rw [hx]; simp), ih, getB_cons, if_neg (by rw [hx]; exact h.symm)]
    · rw [List.filter_cons_of_pos (by rw [beq_eq_false_iff_ne.2 (fun c => hx (tl_eq c))]; rfl), getB_cons, getB_cons, ih]
theorem getB_gone (p : ByteArray) (l : List S49) : getB p (outB p l) = (⟨#[]⟩, false) := getB_none (fun x hx => ((outB_mem p l x).1 hx).2)
theorem getB_in (q : ByteArray) (f : S49) : ∀ l : List S49, (∀ x ∈ l, x.f0 ≠ f.f0) → getB q (inB f l) = if f.f0 = q then (f.f1, true) else getB q l
  | [], _ => by rw [inB, getB_cons]
  | x :: r, h => by
    rw [inB]
    split
    · rw [getB_cons]
    · rw [getB_cons, getB_in q f r (fun y hy => h y (List.mem_cons_of_mem _ hy)), getB_cons]
      by_cases h1 : x.f0 = q
      · rw [if_pos h1, if_pos h1, if_neg (fun c => h x List.mem_cons_self (by rw [h1, c]))]
      · rw [if_neg h1, if_neg h1]
/-- What an op that tells no error makes of what is got. -/
theorem stepR_get (l : List S49) (o : S45) (h0 : (stepR l o).2 = 0) (q : ByteArray) : getB q (stepR l o).1 = if o.f1 = q then (if o.f0 = true then (⟨#[]⟩, false) else (o.f2, true)) else getB q l := by
  revert h0
  unfold stepR
  by_cases h1 : pathB o.f1 = true
  · rw [if_pos h1]
    by_cases h2 : o.f0 = true
    · rw [if_pos h2]
      split
      · intro _
        dsimp only
        by_cases hq : o.f1 = q
        · rw [if_pos hq, ← hq, getB_gone]
        · rw [if_neg hq, getB_out q _ (fun e => hq e.symm)]
      · intro h; exact absurd h (by decide)
    · rw [if_neg h2]
      split
      · intro h; exact absurd h (by decide)
      · split
        · intro h; exact absurd h (by decide)
        · intro _
          dsimp only
          rw [getB_in q ⟨o.f1, o.f2⟩ _ (fun x hx => ((outB_mem _ l x).1 hx).2)]
          dsimp only
          by_cases hq : o.f1 = q
          · rw [if_pos hq, if_pos hq]
          · rw [if_neg hq, if_neg hq, getB_out q _ (fun e => hq e.symm)]
  · rw [if_neg h1]; intro h; exact absurd h (by decide)
end Go.Proofs.YtnhhbmekjoanbaaDoor.P
namespace Go.Proofs.YtnhhbmekjoanbaaDoor.P
open Go.RowKit Go.Proofs.YtnhhbmekjoanbaaDoorW.PrintWords Go.Proofs.YtnhhbmekjoanbaaDoorW.PrintLast Go.Proofs.YtnhhbmekjoanbaaDoorW.PrintMore
set_option linter.unusedVariables false
def lv : List S49 := [⟨⟨#[97, 47, 120]⟩, ⟨#[49]⟩⟩, ⟨⟨#[98]⟩, ⟨#[51]⟩⟩]
def lvO : List S45 := [⟨false, ⟨#[98]⟩, ⟨#[50, 50]⟩⟩, ⟨true, ⟨#[97]⟩, ⟨#[]⟩⟩]
def lvS : ByteArray := ⟨#[0, 1, 98, 0, 2, 50, 50, 1, 1, 97]⟩
theorem lv1 : files_Apply.f [] [⟨false, ⟨#[98]⟩, ⟨#[50]⟩⟩, ⟨false, ⟨#[97, 47, 120]⟩, ⟨#[49]⟩⟩, ⟨false, ⟨#[98]⟩, ⟨#[51]⟩⟩] = some (lv, 0) := by kernel_rfl
theorem lv2 : files_Apply.f lv [⟨true, ⟨#[99]⟩, ⟨#[]⟩⟩] = some ([], 5) := by kernel_rfl
theorem lv3 : files_Apply.f lv [⟨false, ⟨#[97, 47, 47, 98]⟩, ⟨#[]⟩⟩] = some ([], 6) := by kernel_rfl
theorem lv4 : files_Encode.f [⟨false, ⟨#[98]⟩, ⟨#[50, 50]⟩⟩, ⟨true, ⟨#[97]⟩, ⟨#[]⟩⟩] = some (lvS, 0) := by kernel_rfl
theorem lv5 : files_Decode.f lvS = some (lvO, 0) := by kernel_rfl
theorem lv6 : files_Decode.f (lvS ++ ⟨#[122]⟩) = some ([], 1) := by kernel_rfl
theorem lv7 : files_Get.f lv ⟨#[98]⟩ = some (⟨#[51]⟩, true) := by kernel_rfl
theorem lv8 : files_Diff.f lv [⟨⟨#[98]⟩, ⟨#[51]⟩⟩] = some [⟨true, ⟨#[97, 47, 120]⟩, ⟨#[]⟩⟩] := by rw [diff_f]; kernel_rfl
theorem lv9 : files_Path.f ⟨#[97, 47, 98, 46, 103, 111]⟩ = some true := by kernel_rfl
theorem lv10 : files_Path.f ⟨#[97, 47, 46, 46]⟩ = some false := by kernel_rfl
theorem lv11 : files_Path.f ⟨#[]⟩ = some false := by kernel_rfl
theorem lv12 : mayB lv = true := by kernel_rfl
theorem live_f (k : Nat) (hk : 100 ≤ k) : armadalaw05_live.f k = some true := by
  obtain ⟨k, rfl⟩ : ∃ k', k = k' + 1 := ⟨k - 1, by omega⟩
  unfold armadalaw05_live.f
  rw [lv1, Option.bind_some, lv2, Option.bind_some, lv3, Option.bind_some, lv4, Option.bind_some, lv5, Option.bind_some, if_pos (by decide), lv6, Option.bind_some, lv7, Option.bind_some, if_pos (by decide)]
  rw [armadalaw05_live.j0, if_neg (by decide), lv8, Option.bind_some, if_pos (by decide), if_pos (by decide), if_pos (by decide), if_pos (by decide), if_pos (by decide), if_pos (by decide), if_pos (by rw [ByteArray.toList_eq]), if_pos (by decide), if_pos (by rw [ByteArray.toList_eq]; rfl), if_pos (by decide)]
  rw [show rd_T45 (lvO, (0 : Int)).1 1 = ⟨true, ⟨#[97]⟩, ⟨#[]⟩⟩ from rfl, show rd_T45 [(⟨true, ⟨#[97, 47, 120]⟩, ⟨#[]⟩⟩ : S45)] 0 = ⟨true, ⟨#[97, 47, 120]⟩, ⟨#[]⟩⟩ from rfl,
    if_pos (by simp only [ByteArray.toList_eq]; decide), if_pos (by decide), if_pos (by decide), if_pos (by simp only [ByteArray.toList_eq]; decide), lv9, Option.bind_some, if_pos rfl, lv10, Option.bind_some, if_neg (by decide), lv11, Option.bind_some, if_neg (by decide)]
  rw [may_f lv k (by omega), Option.bind_some, if_pos lv12, same_f lv lv (by decide) k (by show 2 < k; omega), Option.bind_some, if_pos ((sameB_iff _ _).2 rfl), same_f lv [] (by decide) k (by show 2 < k; omega)]
  rfl
end Go.Proofs.YtnhhbmekjoanbaaDoor.P
set_option linter.unusedVariables false
set_option linter.unusedSimpArgs false
namespace Go.Proofs.YtnhhbmekjoanbaaDoor.P
open Go.RowKit Go.Proofs.YtnhhbmekjoanbaaDoorW.PrintWords Go.Proofs.YtnhhbmekjoanbaaDoorW.PrintLast Go.Proofs.YtnhhbmekjoanbaaDoorW.PrintMore
theorem ext_left' (a b : ByteArray) : (a ++ b).extract 0 a.size = a := by rw [ext_left a b 0 a.size (Nat.le_refl _), ext_all]
theorem ext_right' (a b : ByteArray) : (a ++ b).extract a.size (a ++ b).size = b := by
  apply tl_inj
  have hz : a.data.toList.length = a.size := by rw [Array.length_toList]; rfl
  rw [ByteArray.data_extract, ByteArray.data_append, Array.toList_extract, Array.toList_append, List.extract_eq_take_drop, List.drop_append, List.drop_of_length_le (by omega), List.nil_append, List.take_of_length_le]
  · rw [hz, Nat.sub_self]; rfl
  · rw [hz, Nat.sub_self, List.drop_zero, ByteArray.size_append, Array.length_toList]
    show b.size ≤ _
    omega
theorem u8_nat (n : Nat) (h : n < 256) : n.toUInt8.toNat = n := by
  simp only [Nat.toUInt8, UInt8.toNat_ofNat']
  omega
theorem get_duo (a b : UInt8) (r : ByteArray) : (⟨#[a, b]⟩ ++ r : ByteArray).get! 0 = a ∧ (⟨#[a, b]⟩ ++ r : ByteArray).get! 1 = b := by
  have hs : (⟨#[a, b]⟩ ++ r : ByteArray).size = 2 + r.size := by rw [ByteArray.size_append]; rfl
  constructor
  · rw [getX (by omega), ByteArray.getElem_append_left (by rw [sz2]; omega)]; rfl
  · rw [getX (by omega), ByteArray.getElem_append_left (by rw [sz2]; omega)]; rfl
theorem duo_rest (a b : UInt8) (r : ByteArray) : (⟨#[a, b]⟩ ++ r : ByteArray).extract 2 (⟨#[a, b]⟩ ++ r : ByteArray).size = r := ext_right' ⟨#[a, b]⟩ r
/-- The op that stands first is the one that was put there. -/
theorem first_op (o : S45) (r : ByteArray) (hc : checkB o = 0) : firstB (opB o ++ r) = (o, true, r) := by
  obtain ⟨_, h1, h2⟩ := opB_size o hc
  obtain ⟨o0, o1, o2⟩ := o
  dsimp only at h1 h2
  cases o0 with
  | true =>
    have he : o2 = ⟨#[]⟩ := by
      unfold checkB at hc
      split at hc
      · split at hc
        · cases hc
        · rename_i g
          refine ByteArray.size_eq_zero_iff.1 ((toList_nil o2).1 ?_)
          cases h : o2.toList with
          | nil => rfl
          | cons x y => exact absurd ⟨rfl, by dsimp only; rw [h]; rfl⟩ g
      · cases hc
    subst he
    have e : opB ⟨true, o1, ⟨#[]⟩⟩ ++ r = ⟨#[1, o1.size.toUInt8]⟩ ++ (o1 ++ r) := by unfold opB; rw [if_pos rfl, ByteArray.append_assoc]
    rw [e]
    obtain ⟨g0, g1⟩ := get_duo 1 o1.size.toUInt8 (o1 ++ r)
    unfold firstB
    rw [g0, g1, duo_rest, u8_nat _ (by omega), if_neg (by rw [ByteArray.size_append, sz2]; omega), if_neg (by decide), if_neg (by rw [ByteArray.size_append]; omega), if_pos (by decide), ext_left', ext_right']
  | false =>
    have e : opB ⟨false, o1, o2⟩ ++ r = ⟨#[0, o1.size.toUInt8]⟩ ++ (o1 ++ (⟨#[(o2.size / 256).toUInt8, (o2.size % 256).toUInt8]⟩ ++ (o2 ++ r))) := by unfold opB; rw [if_neg Bool.false_ne_true]; simp only [ByteArray.append_assoc]
    rw [e]
    obtain ⟨g0, g1⟩ := get_duo 0 o1.size.toUInt8 (o1 ++ (⟨#[(o2.size / 256).toUInt8, (o2.size % 256).toUInt8]⟩ ++ (o2 ++ r)))
    obtain ⟨g2, g3⟩ := get_duo (o2.size / 256).toUInt8 (o2.size % 256).toUInt8 (o2 ++ r)
    unfold firstB
    rw [g0, g1, duo_rest, u8_nat _ (by omega), if_neg (by rw [ByteArray.size_append, sz2]; omega), if_neg (by decide), if_neg (by rw [ByteArray.size_append]; omega), if_neg (by decide), ext_left', ext_right']
    unfold firstB.firstC
    rw [g2, g3, duo_rest, u8_nat _ (by omega), u8_nat _ (by omega), show o2.size / 256 * 256 + o2.size % 256 = o2.size by omega, if_neg (by rw [ByteArray.size_append, sz2]; omega), if_neg (by rw [ByteArray.size_append]; omega), ext_left', ext_right']
def catB : List S45 → ByteArray
  | [] => ⟨#[]⟩
  | o :: r => opB o ++ catB r
theorem encB_ok : ∀ (l : List S45) (t : ByteArray), (encB t l).2 = 0 → (encB t l).1 = t ++ catB l ∧ ∀ o ∈ l, checkB o = 0
  | [], t, h => by
    rw [encB] at h ⊢
    split at h
    · exact absurd h (by decide)
    · rename_i h1
      rw [if_neg h1]
      exact ⟨(ByteArray.append_empty).symm, fun o ho => by cases ho⟩
  | o :: r, t, h => by
    rw [encB_step] at h ⊢
    by_cases hc : checkB o = 0
    · rw [if_pos hc] at h ⊢
      obtain ⟨h1, h2⟩ := encB_ok r _ h
      refine ⟨by rw [h1, catB, ByteArray.append_assoc], fun p hp => ?_⟩
      rcases List.mem_cons.1 hp with rfl | hp
      · exact hc
      · exact h2 p hp
    · rw [if_neg hc] at h
      exact absurd h hc
theorem opB_pos (o : S45) : 2 ≤ (opB o).size := by
  unfold opB
  split <;> simp only [ByteArray.size_append, sz2] <;> omega
theorem opsF_cat : ∀ (l : List S45) (k : Nat), (catB l).size ≤ k → (∀ o ∈ l, checkB o = 0) → opsF k (catB l) = (l, true)
  | [], 0, _, _ => rfl
  | [], k + 1, _, _ => by rw [opsF, if_pos (by rfl)]
  | o :: r, 0, h, _ => by
    have := opB_pos o
    rw [catB, ByteArray.size_append] at h; omega
  | o :: r, k + 1, h, hc => by
    have h1 := opB_pos o
    rw [catB, ByteArray.size_append] at h
    rw [opsF, catB, if_neg (by rw [ByteArray.size_append]; omega), first_op o _ (hc o List.mem_cons_self), if_pos rfl]
    dsimp only
    rw [opsF_cat r k (by omega) (fun p hp => hc p (List.mem_cons_of_mem _ hp))]
/-- Ops that are encoded are decoded as they were. -/
theorem dec_enc (l : List S45) (h : (encB ⟨#[]⟩ l).2 = 0) : decB (encB ⟨#[]⟩ l).1 = (l, 0) := by
  obtain ⟨h1, h2⟩ := encB_ok l _ h
  rw [show (⟨#[]⟩ : ByteArray) ++ catB l = catB l from ByteArray.empty_append] at h1
  unfold decB
  rw [h1, opsF_cat l _ (Nat.le_refl _) h2, if_pos ⟨rfl, h, h1⟩]
theorem encB_small (l : List S45) : ∀ t : ByteArray, (encB t l).1.size ≤ 4096 := by
  induction l with
  | nil =>
    intro t
    rw [encB]
    split
    · exact Nat.zero_le _
    · dsimp only; omega
  | cons o r ih =>
    intro t
    rw [encB_step]
    split
    · exact ih _
    · exact Nat.zero_le _
/-- Files that rise, and of which the same is got, are the same. -/
theorem asc_ext {l m : List S49} (hl : Asc l) (hm : Asc m) (h : ∀ q, getB q l = getB q m) : l = m := by
  have sub : ∀ {a b : List S49}, Asc a → Asc b → (∀ q, getB q a = getB q b) → ∀ x ∈ a, x ∈ b := by
    intro a b ha hb hq x hx
    have h1 := getB_has ha hx
    rw [hq] at h1
    obtain ⟨y, hy, h2, h3⟩ := getB_true (p := x.f0) (l := b) (by rw [h1])
    rw [h1] at h3
    have e : y = x := by
      obtain ⟨y0, y1⟩ := y
      obtain ⟨x0, x1⟩ := x
      dsimp only at h2 h3
      rw [h2, h3]
    rw [← e]; exact hy
  have nd : ∀ {a : List S49}, Asc a → a.Nodup := by
    intro a ha
    refine List.Pairwise.imp ?_ ha
    intro x y hxy e
    subst e
    exact lt8_irr _ hxy
  refine List.Perm.eq_of_pairwise (le := fun (x y : S49) => lt8 x.f0 y.f0) ?_ hl hm ((List.perm_ext_iff_of_nodup (nd hl) (nd hm)).2 (fun x => ⟨sub hl hm h x, sub hm hl (fun q => (h q).symm) x⟩))
  intro a b _ _ h1 h2
  exact absurd (lt8_trans h1 h2) (lt8_irr _)
/-- What comes of ops of which no two have one path. -/
theorem run_get : ∀ (ops : List S45) (l : List S49), AscO ops → (runR l ops).2 = 0 → ∀ q, getB q (runR l ops).1 = (match ops.find? (fun o => decide (o.f1 = q)) with | some o => (if o.f0 = true then (⟨#[]⟩, false) else (o.f2, true)) | none => getB q l)
  | [], l, _, _, q => rfl
  | o :: r, l, ha, h0, q => by
    obtain ⟨g1, g2⟩ := List.pairwise_cons.1 ha
    rw [runR] at h0 ⊢
    by_cases h : (stepR l o).2 = 0
    · rw [if_pos h] at h0 ⊢
      rw [run_get r _ g2 h0 q, List.find?_cons]
      by_cases hq : o.f1 = q
      · rw [decide_eq_true hq]
        have hn : r.find? (fun o => decide (o.f1 = q)) = none := by
          rw [List.find?_eq_none]
          intro x hx c
          have c' := of_decide_eq_true c
          exact ne_of_lt (g1 x hx) (by rw [hq, c'])
        rw [hn]
        dsimp only
        rw [stepR_get l o h q, if_pos hq]
      · rw [decide_eq_false hq]
        dsimp only
        cases hf : r.find? (fun o => decide (o.f1 = q)) with
        | none => dsimp only; rw [stepR_get l o h q, if_neg hq]
        | some p => rfl
    · rw [if_neg h] at h0; exact absurd h0 h
theorem diff_same (l : List S49) : diffD l l = [] := by
  unfold diffD
  split
  · rename_i h
    have ha := ((may_iff l).1 (Bool.and_eq_true_iff.1 h).1).2.1
    refine List.eq_nil_iff_forall_not_mem.2 (fun o ho => ?_)
    rcases (mergeD_mem _ l l (Nat.le_refl _) ha ha o).1 ho with ⟨x, hx, _, h2⟩ | ⟨y, hy, _, h2⟩
    · exact h2 x hx rfl
    · exact h2 hy
  · rfl
/-- Ops each of which can be done, but for room. -/
theorem run_room : ∀ (ops : List S45) (l : List S49), AscO ops → (∀ o ∈ ops, pathB o.f1 = true ∧ o.f2.size ≤ 4096 ∧ (o.f0 = true → (getB o.f1 l).2 = true)) → (runR l ops).2 = 0 ∨ (runR l ops).2 = 3
  | [], _, _, _ => .inl rfl
  | o :: r, l, ha, ho => by
    obtain ⟨g1, g2⟩ := List.pairwise_cons.1 ha
    obtain ⟨p1, p2, p3⟩ := ho o List.mem_cons_self
    have hs : (stepR l o).2 = 0 ∨ (stepR l o).2 = 3 := by
      unfold stepR
      rw [if_pos p1]
      by_cases h2 : o.f0 = true
      · rw [if_pos h2, if_pos (p3 h2)]; exact .inl rfl
      · rw [if_neg h2, if_neg (by omega)]
        split
        · exact .inr rfl
        · exact .inl rfl
    rw [runR]
    by_cases h : (stepR l o).2 = 0
    · rw [if_pos h]
      refine run_room r _ g2 (fun x hx => ?_)
      obtain ⟨q1, q2, q3⟩ := ho x (List.mem_cons_of_mem _ hx)
      refine ⟨q1, q2, fun hg => ?_⟩
      rw [stepR_get l o h x.f1, if_neg (fun c => ne_of_lt (g1 x hx) c)]
      exact q3 hg
    · rw [if_neg h]
      exact .inr (hs.resolve_left h)
/-- The difference, applied, is the other one; or there is no room. -/
theorem apply_diff (a b : List S49) (hma : mayB a = true) (hmb : mayB b = true) : ((applyB a (diffD a b)).2 = 0 → (applyB a (diffD a b)).1 = b) ∧ ((applyB a (diffD a b)).2 = 0 ∨ (applyB a (diffD a b)).2 = 3) := by
  obtain ⟨la, ha, oka⟩ := (may_iff a).1 hma
  obtain ⟨lb, hb, okb⟩ := (may_iff b).1 hmb
  have hd : diffD a b = mergeD (a.length + b.length) a b := by unfold diffD; rw [if_pos (by rw [hma, hmb]; rfl)]
  have hasc : AscO (diffD a b) := by rw [hd]; exact mergeD_asc _ a b (Nat.le_refl _) ha hb
  have hmem : ∀ o, o ∈ diffD a b ↔ inD a b o := fun o => by rw [hd]; exact mergeD_mem _ a b (Nat.le_refl _) ha hb o
  have hap : applyB a (diffD a b) = runR a (diffD a b) := by unfold applyB; rw [if_pos hma, run_eq _ a hma]
  rw [hap]
  constructor
  · intro h0
    refine asc_ext ((may_iff _).1 (runR_may _ a hma h0)).2.1 hb (fun q => ?_)
    rw [run_get _ a hasc h0 q]
    cases hf : (diffD a b).find? (fun o => decide (o.f1 = q)) with
    | some o =>
      dsimp only
      have ho := List.mem_of_find?_eq_some hf
      have hq : o.f1 = q := by have := List.find?_some hf; simpa using this
      rcases (hmem o).1 ho with ⟨x, hx, rfl, h2⟩ | ⟨y, hy, rfl, h2⟩
      · rw [if_pos (show (goneO x).f0 = true from rfl)]
        symm
        refine getB_none (fun y hy => ?_)
        rw [← hq]
        exact h2 y hy
      · rw [if_neg (by exact Bool.false_ne_true), ← hq]
        exact (getB_has hb hy).symm
    | none =>
      dsimp only
      have hn : ∀ o, inD a b o → o.f1 ≠ q := fun o ho c => by
        have := List.find?_eq_none.1 hf o ((hmem o).2 ho)
        simp [c] at this
      by_cases hbq : ∃ y ∈ b, y.f0 = q
      · obtain ⟨y, hy, rfl⟩ := hbq
        have hya : y ∈ a := Classical.byContradiction fun c => hn (putO y) (.inr ⟨y, hy, rfl, c⟩) rfl
        rw [getB_has ha hya, getB_has hb hy]
      · have hb0 : ∀ y ∈ b, y.f0 ≠ q := fun y hy c => hbq ⟨y, hy, c⟩
        have ha0 : ∀ x ∈ a, x.f0 ≠ q := fun x hx c => hn (goneO x) (.inl ⟨x, hx, rfl, fun y hy => by rw [c]; exact hb0 y hy⟩) c
        rw [getB_none hb0, getB_none ha0]
  · refine run_room _ a hasc (fun o ho => ?_)
    rcases (hmem o).1 ho with ⟨x, hx, rfl, h2⟩ | ⟨y, hy, rfl, h2⟩
    · exact ⟨(oka x hx).1, Nat.zero_le _, fun _ => by show (getB x.f0 a).2 = true; rw [getB_has ha hx]⟩
    · exact ⟨(okb y hy).1, (okb y hy).2, fun c => absurd c Bool.false_ne_true⟩
end Go.Proofs.YtnhhbmekjoanbaaDoor.P
set_option linter.unusedVariables false
set_option linter.unusedSimpArgs false
namespace Go.Proofs.YtnhhbmekjoanbaaDoor.Pure
open Go.RowKit Go.Proofs.YtnhhbmekjoanbaaDoorW.PrintWords Go.Proofs.YtnhhbmekjoanbaaDoorW.PrintLast Go.Proofs.YtnhhbmekjoanbaaDoorW.PrintMore Go.Proofs.YtnhhbmekjoanbaaDoor.P
theorem apply_f (l : List S49) (ops : List S45) : files_Apply.f l ops = some (applyB l ops) := rfl
theorem encode_f (ops : List S45) (h : ops.length ≤ 100) : files_Encode.f ops = some (encB ⟨#[]⟩ ops) := by unfold files_Encode.f; rw [if_pos (by omega)]
theorem decode_f (s : ByteArray) (h : s.size ≤ 5000) : files_Decode.f s = some (decB s) := by unfold files_Decode.f; rw [if_pos (by omega)]
theorem back2 (n : Nat) (l k : List S49) (hl : mayB l = true) (hn : 200 ≤ n) : armadalaw05_FilesBack.j2 (n + 1) l k false = some true := by
  rw [armadalaw05_FilesBack.j2, if_neg (by decide), may_f k n (by omega), Option.bind_some]
  by_cases hk : mayB k = true
  · rw [if_pos hk, diff_f, Option.bind_some, apply_f, Option.bind_some]
    obtain ⟨h1, h2⟩ := apply_diff l k hl hk
    have hkl := ((may_iff k).1 hk).1
    by_cases h0 : (applyB l (diffD l k)).2 = 0
    · rw [if_pos h0, h1 h0, rsame_f k k (by omega) n (by omega), Option.bind_some, if_pos ((sameB_iff _ _).2 rfl), live_f n (by omega)]
      rfl
    · rw [if_neg h0, if_pos (h2.resolve_left h0), live_f n (by omega)]
      rfl
  · rw [if_neg hk, live_f n (by omega)]; rfl
theorem back1 (n : Nat) (l k : List S49) (ops : List S45) (hn : 201 ≤ n) : armadalaw05_FilesBack.j1 (n + 1) l k ops false = some true := by
  obtain ⟨n, rfl⟩ : ∃ n', n = n' + 1 := ⟨n - 1, by omega⟩
  rw [armadalaw05_FilesBack.j1, if_neg (by decide), may_f l _ (by omega), Option.bind_some]
  by_cases hl : mayB l = true
  · have hj := back2 n l k hl (by omega)
    have hap : applyB l ops = runR l ops := by unfold applyB; rw [if_pos hl, run_eq _ l hl]
    have hd : ((([] : List S45).length : Int) != 0) = false := rfl
    rw [if_pos hl, apply_f, Option.bind_some, hap, may_f _ _ (by omega), Option.bind_some]
    by_cases h0 : (runR l ops).2 = 0
    · rw [if_pos (runR_may ops l hl h0), if_neg (by rw [bne_self_eq_false]; decide), if_pos h0, diff_f, diff_same, Option.bind_some, hd]
      exact hj
    · rw [runR_bad ops l h0, if_pos (show mayB [] = true by kernel_rfl), if_neg (by rw [bne_self_eq_false]; decide), if_neg h0, if_pos (by rfl), diff_f, diff_same, Option.bind_some, hd]
      exact hj
  · rw [if_neg hl, live_f _ (by omega)]; rfl
theorem back0 (n : Nat) (l k : List S49) (ops : List S45) (ho : ops.length ≤ 100) (hn : 202 ≤ n) : armadalaw05_FilesBack.j0 (n + 1) l k ops false = some true := by
  obtain ⟨n, rfl⟩ : ∃ n', n = n' + 1 := ⟨n - 1, by omega⟩
  have hj := back1 n l k ops (by omega)
  rw [armadalaw05_FilesBack.j0, if_neg (by decide), encode_f ops ho, Option.bind_some, decode_f _ (by have := encB_small ops ⟨#[]⟩; omega), Option.bind_some]
  by_cases h0 : (encB ⟨#[]⟩ ops).2 = 0
  · rw [if_pos h0, dec_enc ops h0, if_pos rfl, ops_f ops ops (by omega) _ (by omega), Option.bind_some, (opsB_iff _ _).2 rfl]
    exact hj
  · rw [if_neg h0]; exact hj
theorem back0t (n : Nat) (l k : List S49) (ops : List S45) (hn : 200 ≤ n) : armadalaw05_FilesBack.j0 (n + 1) l k ops true = some true := by
  rw [armadalaw05_FilesBack.j0, if_pos rfl, live_f n (by omega)]; rfl
theorem FilesBack (l k : List S49) (ops : List S45) (hl : l.length ≤ 9223372036854775807) (hk : k.length ≤ 9223372036854775807) (ho : ops.length ≤ 9223372036854775807) : ∃ n, armadalaw05_FilesBack.f n l k ops = some true := by
  refine ⟨l.length + k.length + ops.length + 300 + 1, ?_⟩
  unfold armadalaw05_FilesBack.f
  rw [small_f l hl _ (by omega), Option.bind_some]
  by_cases hs : smallB l = true
  · rw [if_pos hs, few_f ops ho _ (by omega), Option.bind_some]
    by_cases hf : fewB ops = true
    · rw [if_pos hf, small_f k hk _ (by omega), Option.bind_some]
      cases smallB k
      · exact back0t _ l k ops (by omega)
      · exact back0 _ l k ops (few_len hf) (by omega)
    · rw [if_neg hf]; exact back0t _ l k ops (by omega)
  · rw [if_neg hs]; exact back0t _ l k ops (by omega)
end Go.Proofs.YtnhhbmekjoanbaaDoor.Pure
