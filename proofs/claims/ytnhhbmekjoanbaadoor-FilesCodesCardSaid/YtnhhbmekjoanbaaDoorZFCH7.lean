/- files: bytes by their places. -/
import Derived.Test.YtnhhbmekjoanbaaDoorZFCH6
import Derived.Test.YtnhhbmekjoanbaaDoorZFCH4
import Derived.Test.YtnhhbmekjoanbaaDoorZFCH3
import Derived.Test.YtnhhbmekjoanbaaDoorZFCM0
import Derived.OpenShut
import Derived.Deep.Slices
import Derived.ChangeArms
import Derived.SizedLaws
import Derived.Test.YtnhhbmekjoanbaaDoorZFCM3
import Derived.Test.YtnhhbmekjoanbaaDoorZFCM2
import Derived.Test.YtnhhbmekjoanbaaDoorZFCM5
namespace Go.Proofs.YtnhhbmekjoanbaaDoor.P
open Go.RowKit Go.Proofs.YtnhhbmekjoanbaaDoorW.PrintWords Go.Proofs.YtnhhbmekjoanbaaDoorW.PrintLast Go.Proofs.YtnhhbmekjoanbaaDoorW.PrintMore
set_option linter.unusedVariables false
theorem getX {s : ByteArray} {i : Nat} (h : i < s.size) : s.get! i = s[i] := by
  obtain ⟨⟨l⟩⟩ := s
  show (ByteArray.get! ⟨⟨l⟩⟩ i) = _
  unfold ByteArray.get!
  exact getElem!_pos _ i h
theorem bt_get! {s : ByteArray} {i : Nat} (h : i < s.size) : bt s (i : Int) = ((s.get! i).toNat : Int) := by rw [bt_nat s i h, getX h]
theorem get_ext {s : ByteArray} {a i : Nat} (h : a + i < s.size) : (s.extract a s.size).get! i = s.get! (a + i) := by
  rw [getX (by rw [ByteArray.size_extract]; omega), getX h, ByteArray.getElem_extract]
theorem encB_step (t : ByteArray) (o : S45) (r : List S45) : encB t (o :: r) = if checkB o = 0 then encB (t ++ opB o) r else (⟨#[]⟩, checkB o) := rfl
end Go.Proofs.YtnhhbmekjoanbaaDoor.P
namespace Go.Proofs.YtnhhbmekjoanbaaDoor.P
open Go.RowKit Go.Proofs.YtnhhbmekjoanbaaDoorW.PrintWords Go.Proofs.YtnhhbmekjoanbaaDoorW.PrintLast Go.Proofs.YtnhhbmekjoanbaaDoorW.PrintMore
set_option linter.unusedVariables false
theorem tl_eq {a b : ByteArray} (h : a.toList = b.toList) : a = b := by
  rw [ByteArray.toList_eq, ByteArray.toList_eq] at h
  exact tl_inj h
theorem up1 (i n : Nat) (h : i < n) (hn : n ≤ 9223372036854775807) : wrap64 ((i : Int) + 1) = ((i + 1 : Nat) : Int) := by rw [gw64 (by omega) (by omega)]; rfl
def litB (x : S49) : Bool := decide (x.f0.size ≤ 200) && decide (x.f1.size ≤ 5000)
theorem small_l0 (l : List S49) (hl : l.length ≤ 9223372036854775807) : ∀ (k i : Nat), i ≤ l.length → l.length - i < k → armadaref05_Small.l0 k l (i : Int) = some ((l.drop i).all litB && decide (l.length ≤ 60))
  | 0, _, _, h => absurd h (by omega)
  | k + 1, i, hi, h => by
    rw [armadaref05_Small.l0]
    cases hd : l.drop i with
    | nil =>
      have := List.drop_eq_nil_iff.1 hd
      rw [if_neg (by omega), List.all_nil, Bool.true_and]
      congr 1
      apply decide_eq_decide.2; omega
    | cons x r =>
      obtain ⟨h1, h2, h3⟩ := rdF_drop hd
      rw [if_pos (by omega), if_pos (by omega), h1, List.all_cons, litB]
      have ih := small_l0 l hl k (i + 1) (by omega) (by omega)
      rw [h3] at ih
      by_cases h4 : x.f0.size ≤ 200
      · rw [if_neg (by omega), decide_eq_true h4]
        by_cases h5 : x.f1.size ≤ 5000
        · rw [if_neg (by omega), decide_eq_true h5, up1 i _ h2 hl, ih]; rfl
        · rw [if_pos (by omega), decide_eq_false h5]; rfl
      · rw [if_pos (by omega), decide_eq_false h4]; rfl
def litO (x : S45) : Bool := decide (x.f1.size ≤ 200) && decide (x.f2.size ≤ 5000)
def fewB (l : List S45) : Bool := l.all litO && decide (l.length ≤ 100)
theorem few_l0 (l : List S45) (hl : l.length ≤ 9223372036854775807) : ∀ (k i : Nat), i ≤ l.length → l.length - i < k → armadaref05_Few.l0 k l (i : Int) = some ((l.drop i).all litO && decide (l.length ≤ 100))
  | 0, _, _, h => absurd h (by omega)
  | k + 1, i, hi, h => by
    rw [armadaref05_Few.l0]
    cases hd : l.drop i with
    | nil =>
      have := List.drop_eq_nil_iff.1 hd
      rw [if_neg (by omega), List.all_nil, Bool.true_and]
      congr 1
      apply decide_eq_decide.2; omega
    | cons x r =>
      obtain ⟨h1, h2, h3⟩ := rdO_drop hd
      rw [if_pos (by omega), if_pos (by omega), h1, List.all_cons, litO]
      have ih := few_l0 l hl k (i + 1) (by omega) (by omega)
      rw [h3] at ih
      by_cases h4 : x.f1.size ≤ 200
      · rw [if_neg (by omega), decide_eq_true h4]
        by_cases h5 : x.f2.size ≤ 5000
        · rw [if_neg (by omega), decide_eq_true h5, up1 i _ h2 hl, ih]; rfl
        · rw [if_pos (by omega), decide_eq_false h5]; rfl
      · rw [if_pos (by omega), decide_eq_false h4]; rfl
theorem few_f (l : List S45) (hl : l.length ≤ 9223372036854775807) (k : Nat) (hk : l.length < k) : armadaref05_Few.f k l = some (fewB l) := few_l0 l hl k 0 (Nat.zero_le _) (by omega)
theorem few_len {l : List S45} (h : fewB l = true) : l.length ≤ 100 := by
  unfold fewB at h
  simp only [Bool.and_eq_true, decide_eq_true_eq] at h
  exact h.2
def eqF (x y : S49) : Bool := (x.f0.toList == y.f0.toList) && (x.f1.toList == y.f1.toList)
def sameB : List S49 → List S49 → Bool
  | [], [] => true
  | x :: l, y :: m => eqF x y && sameB l m
  | _, _ => false
theorem eqF_iff (x y : S49) : eqF x y = true ↔ x = y := by
  obtain ⟨a, b⟩ := x
  obtain ⟨c, d⟩ := y
  unfold eqF
  simp only [Bool.and_eq_true, beq_iff_eq]
  constructor
  · rintro ⟨h1, h2⟩
    rw [tl_eq h1, tl_eq h2]
  · intro h
    injection h with h1 h2
    rw [h1, h2]
    exact ⟨rfl, rfl⟩
theorem sameB_iff : ∀ l m : List S49, sameB l m = true ↔ l = m
  | [], [] => by simp [sameB]
  | [], _ :: _ => by simp [sameB]
  | _ :: _, [] => by simp [sameB]
  | x :: l, y :: m => by
    rw [sameB, Bool.and_eq_true, eqF_iff, sameB_iff l m, List.cons.injEq]
theorem rsame_l0 (l m : List S49) (hl : l.length ≤ 9223372036854775807) (hm : l.length = m.length) : ∀ (k i : Nat), i ≤ l.length → l.length - i < k → armadaref05_Same.l0 k l m (i : Int) = some (sameB (l.drop i) (m.drop i))
  | 0, _, _, h => absurd h (by omega)
  | k + 1, i, hi, h => by
    rw [armadaref05_Same.l0]
    cases hd : l.drop i with
    | nil =>
      have := List.drop_eq_nil_iff.1 hd
      rw [if_neg (by omega), List.drop_eq_nil_iff.2 (by omega)]; rfl
    | cons x r =>
      obtain ⟨h1, h2, h3⟩ := rdF_drop hd
      cases he : m.drop i with
      | nil => have := List.drop_eq_nil_iff.1 he; omega
      | cons y s =>
        obtain ⟨g1, g2, g3⟩ := rdF_drop he
        rw [if_pos (by omega), if_pos (by omega), if_pos (by omega), h1, g1, sameB]
        have ih := rsame_l0 l m hl hm k (i + 1) (by omega) (by omega)
        rw [h3, g3] at ih
        rw [up1 i _ h2 hl, ih]
        unfold eqF
        cases (x.f0.toList == y.f0.toList) <;> cases (x.f1.toList == y.f1.toList) <;> rfl
theorem rsame_f (l m : List S49) (hl : l.length ≤ 9223372036854775807) (k : Nat) (hk : l.length < k) : armadaref05_Same.f k l m = some (sameB l m) := by
  unfold armadaref05_Same.f
  by_cases h : l.length = m.length
  · rw [if_pos (by omega)]
    exact rsame_l0 l m hl h k 0 (Nat.zero_le _) (by omega)
  · rw [if_neg (by omega)]
    congr 1
    symm
    rw [Bool.eq_false_iff]
    intro c
    exact h (by rw [(sameB_iff l m).1 c])
theorem psame_l0 (l m : List S49) (hl : l.length ≤ 9223372036854775807) (hm : l.length = m.length) : ∀ (k i : Nat), i ≤ l.length → l.length - i < k → api_File_36.l0 k l m (l.length : Int) (i : Int) = some (sameB (l.drop i) (m.drop i))
  | 0, _, _, h => absurd h (by omega)
  | k + 1, i, hi, h => by
    rw [api_File_36.l0]
    cases hd : l.drop i with
    | nil =>
      have := List.drop_eq_nil_iff.1 hd
      rw [if_neg (by omega), List.drop_eq_nil_iff.2 (by omega)]; rfl
    | cons x r =>
      obtain ⟨h1, h2, h3⟩ := rdF_drop hd
      cases he : m.drop i with
      | nil => have := List.drop_eq_nil_iff.1 he; omega
      | cons y s =>
        obtain ⟨g1, g2, g3⟩ := rdF_drop he
        rw [if_pos (by omega), if_pos (by omega), if_pos (by omega), if_pos (by omega), h1, g1, sameB]
        have ih := psame_l0 l m hl hm k (i + 1) (by omega) (by omega)
        rw [h3, g3] at ih
        rw [up1 i _ h2 hl, ih]
        unfold eqF
        cases (x.f0.toList == y.f0.toList) <;> cases (x.f1.toList == y.f1.toList) <;> rfl
theorem same_f (l m : List S49) (hl : l.length ≤ 9223372036854775807) (k : Nat) (hk : l.length < k) : files_Same.f k l m = some (sameB l m) := by
  unfold files_Same.f api_File_36.f
  by_cases h : l.length = m.length
  · rw [if_pos (by omega), show (0 : Int) = ((0 : Nat) : Int) from rfl, psame_l0 l m hl h k 0 (Nat.zero_le _) (by omega)]; rfl
  · rw [if_neg (by omega)]
    show some false = _
    congr 1
    symm
    rw [Bool.eq_false_iff]
    intro c
    exact h (by rw [(sameB_iff l m).1 c])
def eqO (x y : S45) : Bool := (x.f0 == y.f0) && ((x.f1.toList == y.f1.toList) && (x.f2.toList == y.f2.toList))
def opsB : List S45 → List S45 → Bool
  | [], [] => true
  | x :: l, y :: m => eqO x y && opsB l m
  | _, _ => false
theorem eqO_iff (x y : S45) : eqO x y = true ↔ x = y := by
  obtain ⟨a, b, c⟩ := x
  obtain ⟨d, e, f⟩ := y
  unfold eqO
  simp only [Bool.and_eq_true, beq_iff_eq]
  constructor
  · rintro ⟨h0, h1, h2⟩
    rw [h0, tl_eq h1, tl_eq h2]
  · intro h
    injection h with h0 h1 h2
    rw [h0, h1, h2]
    exact ⟨rfl, rfl, rfl⟩
theorem opsB_iff : ∀ l m : List S45, opsB l m = true ↔ l = m
  | [], [] => by simp [opsB]
  | [], _ :: _ => by simp [opsB]
  | _ :: _, [] => by simp [opsB]
  | x :: l, y :: m => by
    rw [opsB, Bool.and_eq_true, eqO_iff, opsB_iff l m, List.cons.injEq]
theorem ops_l0 (l m : List S45) (hl : l.length ≤ 9223372036854775807) (hm : l.length = m.length) : ∀ (k i : Nat), i ≤ l.length → l.length - i < k → armadaref05_Ops.l0 k l m (i : Int) = some (opsB (l.drop i) (m.drop i))
  | 0, _, _, h => absurd h (by omega)
  | k + 1, i, hi, h => by
    rw [armadaref05_Ops.l0]
    cases hd : l.drop i with
    | nil =>
      have := List.drop_eq_nil_iff.1 hd
      rw [if_neg (by omega), List.drop_eq_nil_iff.2 (by omega)]; rfl
    | cons x r =>
      obtain ⟨h1, h2, h3⟩ := rdO_drop hd
      cases he : m.drop i with
      | nil => have := List.drop_eq_nil_iff.1 he; omega
      | cons y s =>
        obtain ⟨g1, g2, g3⟩ := rdO_drop he
        rw [if_pos (by omega), if_pos (by omega), if_pos (by omega), h1, g1, opsB]
        have ih := ops_l0 l m hl hm k (i + 1) (by omega) (by omega)
        rw [h3, g3] at ih
        rw [up1 i _ h2 hl, ih]
        unfold eqO
        cases (x.f0 == y.f0) <;> cases (x.f1.toList == y.f1.toList) <;> cases (x.f2.toList == y.f2.toList) <;> rfl
theorem ops_f (l m : List S45) (hl : l.length ≤ 9223372036854775807) (k : Nat) (hk : l.length < k) : armadaref05_Ops.f k l m = some (opsB l m) := by
  unfold armadaref05_Ops.f
  by_cases h : l.length = m.length
  · rw [if_pos (by omega)]
    exact ops_l0 l m hl h k 0 (Nat.zero_le _) (by omega)
  · rw [if_neg (by omega)]
    congr 1
    symm
    rw [Bool.eq_false_iff]
    intro c
    exact h (by rw [(opsB_iff l m).1 c])
end Go.Proofs.YtnhhbmekjoanbaaDoor.P
set_option linter.unusedVariables false
set_option linter.unusedSimpArgs false
namespace Go.Proofs.YtnhhbmekjoanbaaDoor.Op
open Go.RowKit Go.Deep Go.ChangeShapes Go.WideShapes Go.Proofs.YtnhhbmekjoanbaaDoorW.PrintWords Go.Proofs.YtnhhbmekjoanbaaDoorW.PrintLast Go.Proofs.YtnhhbmekjoanbaaDoorW.PrintMore
/-- No row and no text in it weighs more than what can be reached. -/
def Light {H : Type} (P : Program) (t : TypeId) (d : DataW H) : Prop := ∀ n ∈ d.weights P t, n ≤ reachBytes
theorem Light.each {H : Type} {P : Program} : ∀ {ts : List TypeId} {ds : List (DataW H)}, (∀ n ∈ DataW.weightsEach P ts ds, n ≤ reachBytes) → ∀ (j : Nat) {t : TypeId} {d : DataW H}, ts[j]? = some t → ds[j]? = some d → Light P t d :=
  fun h _ _ _ ht hd n hn => h n (DataW.weights_mem_each ht hd n hn)
theorem Light.all {H : Type} {P : Program} {e : TypeId} : ∀ {ds : List (DataW H)}, (∀ n ∈ DataW.weightsAll P e ds, n ≤ reachBytes) → ∀ (j : Nat) {d : DataW H}, ds[j]? = some d → Light P e d
  | [], _, j, d, hd => by simp at hd
  | x :: r, h, 0, d, hd => by
    obtain rfl : x = d := by simpa using hd
    intro n hn
    exact h n (by simp only [DataW.weightsAll, List.mem_append]; exact .inl hn)
  | x :: r, h, j + 1, d, hd => Light.all (ds := r) (fun n hn => h n (by simp only [DataW.weightsAll, List.mem_append]; exact .inr hn)) j (by simpa using hd)
theorem Light.arg {H : Type} {P : Program} {ts : List TypeId} {ds : List (DataW H)} (h : (DataW.weightsEach P ts ds).all (· ≤ reachBytes) = true) (j : Nat) {t : TypeId} {d : DataW H} (ht : ts[j]? = some t) (hd : ds[j]? = some d) : Light P t d :=
  Light.each (fun n hn => of_decide_eq_true (List.all_eq_true.1 h n hn)) j ht hd
/-- How cells of a type read. -/
structure Cdc (P : Program) (t : TypeId) (α : Type) where
  sz : Nat
  K : World → α → List Value → Prop
  hsz : P.cellsOf t = sz
  len : ∀ {w a cs}, K w a cs → cs.length = sz
  opens : ∀ {H : Type} {enc : TypeId × Value → H} {w : World} {base : Nat} {spare : Nat → Bool} {held : Bool} {fuel : Nat} {cs : List Value} {x : DataW H × List MemPlace},
    DataW.trod enc P w base spare held fuel t cs = some x → Light P t x.1 → ∃ a, K w a cs
def Cdc.int {P : Program} {t : TypeId} {k : IntKind} (ht : P.underlying t = some (.int k)) (hc : P.cellsOf t = 1) : Cdc P t Int where
  sz := 1
  K := fun _ a cs => cs = [.int k a] ∧ (Lit.int k a).wf = true
  hsz := hc
  len := fun h => by rw [h.1]; rfl
  opens := fun h _ => by
    obtain ⟨n, h1, _, h2⟩ := DataW.trod_int ht h
    exact ⟨n, h1, h2⟩
def Cdc.bool {P : Program} {t : TypeId} (ht : P.underlying t = some .bool) (hc : P.cellsOf t = 1) : Cdc P t Bool where
  sz := 1
  K := fun _ a cs => cs = [.bool a]
  hsz := hc
  len := fun h => by rw [h]; rfl
  opens := fun h _ => by
    obtain ⟨n, h1, _⟩ := DataW.trod_bool ht h
    exact ⟨n, h1⟩
def Cdc.str {P : Program} {t : TypeId} (ht : P.underlying t = some .string) (hc : P.cellsOf t = 1) : Cdc P t ByteArray where
  sz := 1
  K := fun _ a cs => cs = [.string a] ∧ a.size ≤ 140737488351232
  hsz := hc
  len := fun h => by rw [h.1]; rfl
  opens := fun h hw => by
    obtain ⟨n, h1, h3, h2⟩ := DataW.trod_string ht h
    subst h3
    have := hw n.data.toList.length (by simp [DataW.weights])
    rw [Array.length_toList] at this
    exact ⟨n, h1, this⟩
def Cdc.slice {P : Program} {t te : TypeId} {α : Type} (ht : P.underlying t = some (.slice te)) (hc : P.cellsOf t = 1) (e : Cdc P te α) : Cdc P t (Option Addr × Nat × List α) where
  sz := 1
  K := fun w a cs => cs = [.slice a.1 a.2.2.length a.2.1] ∧ a.2.2.length ≤ a.2.1 ∧ ReadsRow (e.K w) e.sz w a.1 a.2.2.length a.2.2
  hsz := hc
  len := fun h => by rw [h.1]; rfl
  opens := fun {H enc w base spare held fuel cs x} h hw => by
    rcases DataW.trod_slice ht h with ⟨rfl, _⟩ | ⟨a, len, cap, elems, rest, n, _, rfl, hx, hb, hl, hm, hlen, hel, _, _⟩
    · exact ⟨(none, 0, []), rfl, Nat.le_refl _, rfl, Nat.zero_le _, fun h => by cases h⟩
    · subst hx
      have hwe : ∀ n ∈ DataW.weightsAll P te (elems.map (·.1)), n ≤ reachBytes := fun n hn => hw n (by simp only [DataW.weights, ht, List.mem_cons, List.mem_append]; exact .inr (.inl hn))
      have each : ∀ i, i < len → ∃ y, ∃ c, c.length = e.sz ∧ e.K w y c ∧ ∀ j u, c[j]? = some u → w.cell? (a.add (i * e.sz + j)) = some u := by
        intro i hi
        have h1 := hel i hi
        have hi' : i < elems.length := by omega
        rw [List.getElem?_eq_getElem hi', Option.bind_eq_some_iff] at h1
        obtain ⟨c, hcs, hy⟩ := h1
        obtain ⟨_, hcl, hat⟩ := World.cells?_some hcs
        obtain ⟨y, hK⟩ := e.opens hy (Light.all hwe i (by rw [List.getElem?_map, List.getElem?_eq_getElem hi']; rfl))
        refine ⟨y, c, e.len hK, hK, fun j u hu => ?_⟩
        have hj : j < c.length := (List.getElem?_eq_some_iff.1 hu).1
        rw [← Deep.add_add, ← e.hsz, hat j (by omega), hu]
      have big : ∀ m, m ≤ len → ∃ l : List α, l.length = m ∧ ∀ i p, l[i]? = some p → ∃ c, c.length = e.sz ∧ e.K w p c ∧ ∀ j u, c[j]? = some u → w.cell? (a.add (i * e.sz + j)) = some u := by
        intro m
        induction m with
        | zero => intro _; exact ⟨[], rfl, fun i p h => by simp at h⟩
        | succ m ih =>
          intro hm2
          obtain ⟨l, h1, h2⟩ := ih (by omega)
          obtain ⟨y, hy⟩ := each m (by omega)
          refine ⟨l ++ [y], by simp [h1], fun i p hp => ?_⟩
          rcases Nat.lt_or_ge i l.length with hi | hi
          · rw [List.getElem?_append_left hi] at hp
            exact h2 i p hp
          · have hi2 : i = m := by
              have := (List.getElem?_eq_some_iff.1 hp).1
              rw [List.length_append, List.length_singleton] at this
              omega
            subst hi2
            rw [List.getElem?_append_right (by omega)] at hp
            have : y = p := by simpa [h1] using hp
            subst this
            exact hy
      obtain ⟨l, h1, h2⟩ := big len (Nat.le_refl _)
      subst h1
      exact ⟨(some a, cap, l), rfl, hl, rfl, by unfold maxLen at hm; show l.length ≤ _; omega, fun _ => ⟨a, rfl, h2⟩⟩
/-- The fields of a struct, from an offset on. -/
structure Fl (P : Program) (fs : List Field) (off : Nat) (α : Type) where
  sz : Nat
  K : World → α → List Value → Prop
  len : ∀ {w a cs}, K w a cs → cs.length = sz
  opens : ∀ {H : Type} {enc : TypeId × Value → H} {w : World} {base : Nat} {spare : Nat → Bool} {held : Bool} {n : Nat} {cs : List Value} {xs : List (DataW H × List MemPlace)}, xs.length = fs.length → cs.length = off + sz → (∀ n ∈ DataW.weightsEach P (fs.map (·.type)) (xs.map (·.1)), n ≤ reachBytes) →
    (∀ (i : Nat) (f : Field), fs[i]? = some f → DataW.trod enc P w base spare held n f.type ((cs.drop f.offset).take (P.cellsOf f.type)) = xs[i]?) → ∃ a, K w a (cs.drop off)
def Fl.nil {P : Program} {off : Nat} : Fl P [] off Unit where
  sz := 0
  K := fun _ _ cs => cs = []
  len := fun h => by rw [h]; rfl
  opens := fun _ h _ _ => ⟨(), by rw [List.drop_eq_nil_iff]; omega⟩
def Fl.cons {P : Program} {f : Field} {fs : List Field} {off : Nat} {α β : Type} (c : Cdc P f.type α) (ho : f.offset = off) (r : Fl P fs (off + c.sz) β) : Fl P (f :: fs) off (α × β) where
  sz := c.sz + r.sz
  K := fun w a cs => ∃ c0 c1, cs = c0 ++ c1 ∧ c.K w a.1 c0 ∧ r.K w a.2 c1
  len := fun ⟨c0, c1, h, h0, h1⟩ => by rw [h, List.length_append, c.len h0, r.len h1]
  opens := fun {H enc w base spare held n cs xs} hx hl hw h => by
    match xs, hx with
    | x :: xs, hx =>
      simp only [List.map_cons, DataW.weightsEach, List.mem_append] at hw
      have h0 := h 0 f rfl
      rw [List.getElem?_cons_zero] at h0
      obtain ⟨a, ha⟩ := c.opens h0 (fun n hn => hw n (.inl hn))
      obtain ⟨b, hb⟩ := r.opens (cs := cs) (xs := xs) (by simpa using hx) (by omega) (fun n hn => hw n (.inr hn)) (fun i g hg => by simpa using h (i + 1) g (by simpa using hg))
      refine ⟨(a, b), _, _, ?_, ha, hb⟩
      rw [c.hsz, ho, ← List.drop_drop, List.take_append_drop]
def Cdc.struct {P : Program} {t : TypeId} {α : Type} {fs : Array Field} (ht : P.underlying t = some (.struct fs)) (r : Fl P fs.toList 0 α) (hc : P.cellsOf t = r.sz) : Cdc P t α where
  sz := r.sz
  K := r.K
  hsz := hc
  len := r.len
  opens := fun {H enc w base spare held fuel cs x} h hw => by
    obtain ⟨xs, n, _, hx, hl, hxl, hf⟩ := DataW.trod_struct ht h
    subst hx
    obtain ⟨a, ha⟩ := r.opens (xs := xs) (by simpa using hxl) (by omega) (fun n hn => hw n (by simp only [DataW.weights, ht]; exact hn)) (fun i f hi => hf i f (by simpa using hi))
    exact ⟨a, by simpa using ha⟩
/-- An array, as a list of its length. -/
def Cdc.array {P : Program} {t te : TypeId} {α : Type} {n : Nat} (ht : P.underlying t = some (.array n te)) (e : Cdc P te α) (h1 : e.sz = 1) (hc : P.cellsOf t = n) : Cdc P t (List α) where
  sz := n
  K := fun w a cs => cs.length = n ∧ a.length = n ∧ ∀ (i : Nat) (x : α), a[i]? = some x → ∃ u, cs[i]? = some u ∧ e.K w x [u]
  hsz := hc
  len := fun h => h.1
  opens := fun {H enc w base spare held fuel cs x} h hw => by
    obtain ⟨xs, m, _, hx, hl, hxl, hf⟩ := DataW.trod_array ht h
    subst hx
    have hwe : ∀ n ∈ DataW.weightsAll P te (xs.map (·.1)), n ≤ reachBytes := fun n hn => hw n (by simp only [DataW.weights, ht]; exact hn)
    rw [hc] at hl
    have each : ∀ i, i < n → ∃ x u, cs[i]? = some u ∧ e.K w x [u] := by
      intro i hi
      have h2 := hf i hi
      rw [List.getElem?_eq_getElem (show i < xs.length by omega), e.hsz, h1, Nat.mul_one, List.drop_eq_getElem_cons (show i < cs.length by omega)] at h2
      rw [List.take_succ_cons, List.take_zero] at h2
      obtain ⟨a, ha⟩ := e.opens h2 (Light.all hwe i (by rw [List.getElem?_map, List.getElem?_eq_getElem (show i < xs.length by omega)]; rfl))
      exact ⟨a, _, List.getElem?_eq_getElem (by omega), ha⟩
    have big : ∀ m, m ≤ n → ∃ l : List α, l.length = m ∧ ∀ (i : Nat) (x : α), l[i]? = some x → ∃ u, cs[i]? = some u ∧ e.K w x [u] := by
      intro m
      induction m with
      | zero => intro _; exact ⟨[], rfl, fun i p h => by simp at h⟩
      | succ m ih =>
        intro hm2
        obtain ⟨l, h3, h4⟩ := ih (by omega)
        obtain ⟨y, hy⟩ := each m (by omega)
        refine ⟨l ++ [y], by simp [h3], fun i p hp => ?_⟩
        rcases Nat.lt_or_ge i l.length with hi | hi
        · rw [List.getElem?_append_left hi] at hp
          exact h4 i p hp
        · have hi2 : i = m := by
            have := (List.getElem?_eq_some_iff.1 hp).1
            rw [List.length_append, List.length_singleton] at this
            omega
          subst hi2
          rw [List.getElem?_append_right (by omega)] at hp
          have : y = p := by simpa [h3] using hp
          subst this
          exact hy
    obtain ⟨l, h3, h4⟩ := big n (Nat.le_refl _)
    exact ⟨l, hl, h3, h4⟩
/-- The same cells, read as another kind of thing. -/
def Cdc.map {P : Program} {t : TypeId} {α β : Type} (e : Cdc P t α) (f : α → β) : Cdc P t β where
  sz := e.sz
  K := fun w b cs => ∃ a, b = f a ∧ e.K w a cs
  hsz := e.hsz
  len := fun ⟨_, _, h⟩ => e.len h
  opens := fun h hw => by
    obtain ⟨a, ha⟩ := e.opens h hw
    exact ⟨f a, a, rfl, ha⟩
theorem row_len {α : Type} {R : α → List Value → Prop} {size : Nat} {w : World} {A : Option Addr} {n : Nat} {l : List α} (h : ReadsRow R size w A n l) : n ≤ 9223372036854775807 := h.2.1
theorem row_C {α : Type} {R R' : α → List Value → Prop} {size : Nat} {w : World} {A : Option Addr} {n : Nat} {l : List α} (h : ReadsRow R size w A n l) (hR : ∀ p c, R p c → R' p c) : ReadsRow R' size w A n l :=
  h.imp_ (Below.refl _ _) hR
/-- A slice. -/
theorem open_row {P : Program} {t te : TypeId} {α : Type} (c : Cdc P t (Option Addr × Nat × List α)) (ht : P.underlying t = some (.slice te)) {H : Type} {enc : TypeId × Value → H} {w : World} {base : Nat} {spare : Nat → Bool} {held : Bool} {r : Reach} {b0 : Nat} {v : Value} {d : DataW H} {p : List MemPlace}
    (hv : Value.okWide P w r b0 t v) (h : DataW.Trod enc P w base spare held t v d p) (hw : Light P t d) : ∃ (a : Option Addr × Nat × List α), c.K w a [v] := by
  obtain ⟨A, l, cp, rfl⟩ := okWide_slice ht hv
  obtain ⟨fuel, hf⟩ := h
  obtain ⟨a, ha⟩ := c.opens hf hw
  exact ⟨a, ha⟩
theorem lt_of_trod {P : Program} {t : TypeId} {H : Type} {enc : TypeId × Value → H} {w : World} {base : Nat} {spare : Nat → Bool} {held : Bool} {v : Value} {d : DataW H} {p : List MemPlace}
    (h : DataW.Trod enc P w base spare held t v d p) : ∀ x ∈ p, x.block < w.heap.size := by
  obtain ⟨m, hm⟩ := h
  exact DataW.trod_lt m _ _ _ hm
end Go.Proofs.YtnhhbmekjoanbaaDoor.Op
namespace Go.Proofs.YtnhhbmekjoanbaaDoor.P
open Go.RowKit Go.Proofs.YtnhhbmekjoanbaaDoorW.PrintWords Go.Proofs.YtnhhbmekjoanbaaDoorW.PrintLast Go.Proofs.YtnhhbmekjoanbaaDoorW.PrintMore
set_option linter.unusedVariables false
set_option maxHeartbeats 4000000 in
theorem rpart_l0 (s : ByteArray) (hs : s.size ≤ 1000000) : ∀ (d i k : Nat), s.size - i = d → i ≤ s.size → d < k → armadaref05_part.l0 k s (i : Int) =
    some ((List.range' i d).all (fun i => plainB (bt s (i : Int))) && (!(s.toList == []) && (!(s.toList == [46]) && !(s.toList == [46, 46]))))
  | 0, i, k, hd, hi, hk => by
    obtain ⟨k, rfl⟩ : ∃ k', k = k' + 1 := ⟨k - 1, by omega⟩
    rw [armadaref05_part.l0, if_neg (by omega)]
    simp only [List.range'_zero, List.all_nil, Bool.true_and]
    by_cases h1 : s.toList = []
    · rw [if_pos h1, h1]; rfl
    · rw [if_neg h1]
      by_cases h2 : s.toList = [46]
      · rw [if_pos h2, h2]; rfl
      · rw [if_neg h2, beq_eq_false_iff_ne.2 h1, beq_eq_false_iff_ne.2 h2]
        rfl
  | d + 1, i, k, hd, hi, hk => by
    obtain ⟨k, rfl⟩ : ∃ k', k = k' + 1 := ⟨k - 1, by omega⟩
    have ih := rpart_l0 s hs d (i + 1) k (by omega) (by omega) (by omega)
    rw [armadaref05_part.l0, if_pos (by omega), if_pos (by omega), List.range'_succ, List.all_cons, gw64 (by omega) (by omega)]
    rw [show (i : Int) + 1 = ((i + 1 : Nat) : Int) from rfl]
    generalize armadaref05_part.l0 k s ((i + 1 : Nat) : Int) = R at *
    subst ih
    generalize (!(s.toList == []) && (!(s.toList == [46]) && !(s.toList == [46, 46]))) = Z
    generalize (List.range' (i + 1) d).all (fun i => plainB (bt s (i : Int))) = B
    generalize bt s (i : Int) = c
    by_cases h : plainB c = true
    · rw [h, Bool.true_and]
      have h' := of_decide_eq_true h
      generalize some (B && Z) = R
      repeat' split
      all_goals first | rfl | (exfalso; omega)
    · rw [Bool.eq_false_iff.2 h, Bool.false_and, Bool.false_and]
      have h' : ¬ _ := fun c => h (decide_eq_true c)
      generalize some (B && Z) = R
      repeat' split
      all_goals first | rfl | (exfalso; omega)
theorem rpart_f (s : ByteArray) (hs : s.size ≤ 1000000) (k : Nat) (hk : s.size < k) : armadaref05_part.f k s = some (partB s) := by
  unfold armadaref05_part.f partB
  have h := rpart_l0 s hs s.size 0 k (by omega) (by omega) hk
  rw [List.range_eq_range']
  exact h
theorem split_l0 (s : ByteArray) (c : Int) (hs : s.size ≤ 1000000) : ∀ (n k fr i : Nat) (out : List ByteArray), n + i = s.size → fr ≤ i → n + 1 < k → out.length + n ≤ 2000000 → armadaref05_Split.l0 k s c out (fr : Int) (i : Int) = some (out ++ sp c s n fr i)
  | 0, k, fr, i, out, hn, hf, hk, ho => by
    obtain ⟨k, rfl⟩ : ∃ k', k = k' + 1 + 1 := ⟨k - 2, by omega⟩
    have hi : i = s.size := by omega
    subst hi
    rw [armadaref05_Split.l0, if_pos (by omega), if_pos rfl, if_pos (by omega), if_pos (by omega), if_pos (by omega), gw64 (by omega) (by omega), armadaref05_Split.l0, if_neg (by omega)]
    rfl
  | n + 1, k, fr, i, out, hn, hf, hk, ho => by
    obtain ⟨k, rfl⟩ : ∃ k', k = k' + 1 := ⟨k - 1, by omega⟩
    rw [armadaref05_Split.l0, if_pos (by omega), if_neg (by omega), if_pos (by omega), if_pos (by omega), sp, gw64 (by omega) (by omega)]
    rw [show (i : Int) + 1 = ((i + 1 : Nat) : Int) from rfl]
    by_cases h : bt s (i : Int) = c
    · rw [if_pos h, if_pos h, if_pos (by omega), if_pos (by omega), if_pos (by omega), split_l0 s c hs n k (i + 1) (i + 1) _ (by omega) (Nat.le_refl _) (by omega) (by rw [List.length_append, List.length_singleton]; omega), List.append_assoc]
      rfl
    · rw [if_neg h, if_neg h, split_l0 s c hs n k fr (i + 1) _ (by omega) (by omega) (by omega) (by omega)]
theorem split_f (s : ByteArray) (c : UInt8) (hs : s.size ≤ 1000000) (k : Nat) (hk : s.size + 1 < k) : armadaref05_Split.f k s (c.toNat : Int) = some (spl c s) := by
  unfold armadaref05_Split.f
  rw [show (0 : Int) = ((0 : Nat) : Int) from rfl, split_l0 s _ hs s.size k 0 0 [] (by omega) (Nat.le_refl _) hk (by simp; omega), spl_sp, List.nil_append]
theorem rpath_l0 (l : List ByteArray) (hl : l.length ≤ 1000000) (m : Nat) (hm : ∀ x ∈ l, x.size ≤ m) (hm1 : m ≤ 1000000) : ∀ (k i : Nat), i ≤ l.length → (l.length - i) + m + 1 < k → armadaref05_Path.l0 k l (i : Int) = some ((l.drop i).all partB)
  | 0, _, _, h => absurd h (by omega)
  | k + 1, i, hi, h => by
    rw [armadaref05_Path.l0]
    by_cases hx : i < l.length
    · rw [if_pos (by omega), if_pos (by omega)]
      have e : rdOf ByteArray.empty l (i : Int) = l[i] := by
        unfold rdOf
        rw [Int.toNat_natCast, List.getD_eq_getElem?_getD, List.getElem?_eq_getElem hx]; rfl
      rw [e, rpart_f _ (by have := hm l[i] (List.getElem_mem hx); omega) k (by have := hm l[i] (List.getElem_mem hx); omega), Option.bind_some, List.drop_eq_getElem_cons hx, List.all_cons, up1 i _ hx (by omega), rpath_l0 l hl m hm hm1 k (i + 1) (by omega) (by omega)]
      cases partB l[i] <;> rfl
    · rw [if_neg (by omega), List.drop_eq_nil_iff.2 (by omega)]; rfl
theorem rpath_f (s : ByteArray) (k : Nat) (hk : 130 ≤ k) : armadaref05_Path.f k s = some (pathB s) := by
  unfold armadaref05_Path.f pathB
  by_cases h : s.size ≤ 60
  · rw [if_neg (by omega), decide_eq_true h, Bool.true_and]
    rw [show (47 : Int) = ((47 : UInt8).toNat : Int) from rfl, split_f s 47 (by omega) k (by omega), Option.bind_some]
    have hl : (spl 47 s).length ≤ 61 := by rw [spl_length]; have := cnt_le 47 s; omega
    exact rpath_l0 (spl 47 s) (by omega) 60 (fun x hx => by have := spl_sizes 47 s x hx; omega) (by omega) k 0 (Nat.zero_le _) (by omega)
  · rw [if_pos (by omega), decide_eq_false h]; rfl
end Go.Proofs.YtnhhbmekjoanbaaDoor.P
namespace Go.Proofs.YtnhhbmekjoanbaaDoor.P
open Go.RowKit Go.Proofs.YtnhhbmekjoanbaaDoorW.PrintWords Go.Proofs.YtnhhbmekjoanbaaDoorW.PrintLast Go.Proofs.YtnhhbmekjoanbaaDoorW.PrintMore
set_option linter.unusedVariables false
abbrev lt8 (a b : ByteArray) : Prop := a.data.toList < b.data.toList
theorem lt8_irr (a : ByteArray) : ¬ lt8 a a := List.lt_irrefl _
theorem lt8_trans {a b c : ByteArray} (h : lt8 a b) (g : lt8 b c) : lt8 a c := List.lt_trans h g
theorem lt8_tri {a b : ByteArray} (h : ¬ lt8 a b) (g : ¬ lt8 b a) : a = b := ByteArray.ext (Array.toList_inj.mp (List.le_antisymm (List.not_lt.1 g) (List.not_lt.1 h)))
theorem less_lt (a b : ByteArray) : Op.bytesLess a.toList b.toList = decide (lt8 a b) := by
  rw [Go.Proofs.bytesLess_eq, ByteArray.toList_eq, ByteArray.toList_eq]
/-- Files rise by their paths. -/
def Asc (l : List S49) : Prop := l.Pairwise (fun x y => lt8 x.f0 y.f0)
def okF (x : S49) : Prop := pathB x.f0 = true ∧ x.f1.size ≤ 4096
theorem rise_iff : ∀ (l : List S49) (last : ByteArray), riseB last l = true ↔ (Asc l ∧ (∀ x ∈ l, okF x) ∧ ∀ x ∈ l, lt8 last x.f0)
  | [], last => by simp [riseB, Asc]
  | x :: r, last => by
    rw [riseB, less_lt]
    simp only [Bool.and_eq_true, decide_eq_true_eq]
    rw [rise_iff r x.f0]
    constructor
    · rintro ⟨h1, h2, h3, h4, h5, h6⟩
      refine ⟨List.pairwise_cons.2 ⟨h6, h4⟩, ?_, ?_⟩
      · intro y hy
        rcases List.mem_cons.1 hy with rfl | hy
        · exact ⟨h1, h2⟩
        · exact h5 y hy
      · intro y hy
        rcases List.mem_cons.1 hy with rfl | hy
        · exact h3
        · exact lt8_trans h3 (h6 y hy)
    · rintro ⟨h1, h2, h3⟩
      obtain ⟨g1, g2⟩ := List.pairwise_cons.1 h1
      exact ⟨(h2 x List.mem_cons_self).1, (h2 x List.mem_cons_self).2, h3 x List.mem_cons_self, g2, fun y hy => h2 y (List.mem_cons_of_mem _ hy), g1⟩
theorem pathB_ne' {s : ByteArray} (h : pathB s = true) : lt8 ⟨#[]⟩ s := by
  cases hl : s.data.toList with
  | nil =>
    have e : s = ⟨#[]⟩ := ByteArray.ext (Array.toList_inj.mp hl)
    subst e
    exact absurd h (by decide +kernel)
  | cons x r =>
    show ([] : List UInt8) < s.data.toList
    rw [hl]
    exact List.nil_lt_cons x r
theorem may_iff (l : List S49) : mayB l = true ↔ (l.length ≤ 40 ∧ Asc l ∧ ∀ x ∈ l, okF x) := by
  unfold mayB
  rw [Bool.and_eq_true, decide_eq_true_eq, rise_iff]
  constructor
  · rintro ⟨h1, h2, h3, _⟩; exact ⟨h1, h2, h3⟩
  · rintro ⟨h1, h2, h3⟩; exact ⟨h1, h2, h3, fun x hx => pathB_ne' (h3 x hx).1⟩
theorem asc_get {l : List S49} (h : Asc l) {i j : Nat} (hij : i < j) (hj : j < l.length) : lt8 (l[i]'(by omega)).f0 l[j].f0 := List.pairwise_iff_getElem.1 h i j (by omega) hj hij
theorem binF_spec (l : List S49) (p : ByteArray) (ha : Asc l) : ∀ (k i j : Nat), i ≤ j → j ≤ l.length → j - i ≤ k → (∀ m (hm : m < l.length), m < i → lt8 l[m].f0 p) → (∀ m (hm : m < l.length), j ≤ m → ¬ lt8 l[m].f0 p) →
    (∀ m (hm : m < l.length), m < binF l p k i j → lt8 l[m].f0 p) ∧ (∀ m (hm : m < l.length), binF l p k i j ≤ m → ¬ lt8 l[m].f0 p)
  | 0, i, j, hij, hj, hk, h1, h2 => by
    have : i = j := by omega
    subst this
    exact ⟨h1, h2⟩
  | k + 1, i, j, hij, hj, hk, h1, h2 => by
    rw [binF]
    by_cases h : i < j
    · rw [if_pos h]
      obtain ⟨m, hm⟩ : ∃ m, (i + j) / 2 = m := ⟨_, rfl⟩
      rw [hm]
      have hml : m < l.length := by omega
      rw [rdF_get l m hml]
      by_cases hc : l[m].f0.data.toList < p.data.toList
      · rw [if_pos ((cmpS_lt _ _).2 hc)]
        refine binF_spec l p ha k (m + 1) j (by omega) hj (by omega) ?_ h2
        intro q hq hqm
        by_cases e : q = m
        · subst e; exact hc
        · exact lt8_trans (asc_get ha (show q < m by omega) hml) hc
      · rw [if_neg (fun c => hc ((cmpS_lt _ _).1 c))]
        refine binF_spec l p ha k i m (by omega) (by omega) (by omega) h1 ?_
        intro q hq hqm hlt
        by_cases e : q = m
        · subst e; exact hc hlt
        · exact hc (lt8_trans (asc_get ha (show m < q by omega) hq) hlt)
    · rw [if_neg h]
      have : i = j := by omega
      subst this
      exact ⟨h1, h2⟩
theorem at_split (l : List S49) (p : ByteArray) (ha : Asc l) : (∀ x ∈ l.take (atF p l), lt8 x.f0 p) ∧ (∀ x ∈ l.drop (atF p l), ¬ lt8 x.f0 p) := by
  obtain ⟨h1, h2⟩ := binF_spec l p ha l.length 0 l.length (Nat.zero_le _) (Nat.le_refl _) (by omega) (fun m hm h => by omega) (fun m hm h => by omega)
  have hle := atF_le p l
  constructor
  · intro x hx
    obtain ⟨i, hi, rfl⟩ := List.mem_iff_getElem.1 hx
    rw [List.length_take] at hi
    rw [List.getElem_take]
    exact h1 i (by omega) (by show i < atF p l; omega)
  · intro x hx
    obtain ⟨i, hi, rfl⟩ := List.mem_iff_getElem.1 hx
    rw [List.length_drop] at hi
    rw [List.getElem_drop]
    exact h2 (atF p l + i) (by omega) (Nat.le_add_right _ _)
theorem isF_split (l : List S49) (p : ByteArray) (ha : Asc l) : (isF p l = true ∧ ∃ x r, l.drop (atF p l) = x :: r ∧ x.f0 = p ∧ ∀ y ∈ r, lt8 p y.f0) ∨ (isF p l = false ∧ ∀ y ∈ l.drop (atF p l), lt8 p y.f0) := by
  have hs := at_split l p ha
  unfold isF
  by_cases h : atF p l < l.length
  · rw [decide_eq_true h, Bool.true_and, rdF_get l _ h]
    have hd := List.drop_eq_getElem_cons h
    have hp : (l.drop (atF p l)).Pairwise (fun x y => lt8 x.f0 y.f0) := List.Pairwise.sublist (List.drop_sublist ..) ha
    rw [hd] at hp hs
    obtain ⟨g1, g2⟩ := List.pairwise_cons.1 hp
    by_cases e : cmpS (l[atF p l]).f0 p = 0
    · refine .inl ⟨beq_iff_eq.2 e, _, _, hd, ?_, ?_⟩
      · exact ByteArray.ext (Array.toList_inj.mp ((cb_eq _ _).1 e))
      · intro y hy
        have := g1 y hy
        rwa [show (l[atF p l]).f0 = p from ByteArray.ext (Array.toList_inj.mp ((cb_eq _ _).1 e))] at this
    · refine .inr ⟨beq_eq_false_iff_ne.2 e, ?_⟩
      have hne : (l[atF p l]).f0 ≠ p := fun c => e ((cb_eq _ _).2 (by rw [c]))
      have h0 : lt8 p (l[atF p l]).f0 := Decidable.byContradiction fun c => hne (lt8_tri (hs.2 _ List.mem_cons_self) c)
      rw [hd]
      intro y hy
      rcases List.mem_cons.1 hy with rfl | hy
      · exact h0
      · exact lt8_trans h0 (g1 y hy)
  · rw [decide_eq_false h, Bool.false_and]
    refine .inr ⟨rfl, ?_⟩
    rw [List.drop_eq_nil_iff.2 (by omega)]
    intro y hy; cases hy
/-- Files but that of a path. -/
def outB (p : ByteArray) (l : List S49) : List S49 := l.filter (fun x => !(x.f0.toList == p.toList))
theorem outB_ne {p : ByteArray} : ∀ {l : List S49}, (∀ x ∈ l, x.f0 ≠ p) → outB p l = l
  | [], _ => rfl
  | x :: r, h => by
    have hx : (x.f0.toList == p.toList) = false := beq_eq_false_iff_ne.2 (fun c => h x List.mem_cons_self (tl_eq c))
    have ih := outB_ne (fun y hy => h y (List.mem_cons_of_mem _ hy)) (l := r)
    unfold outB at *
    rw [List.filter_cons_of_pos (by rw [hx]; rfl), ih]
theorem getB_at {p : ByteArray} {x : S49} (hx : x.f0 = p) (post : List S49) : ∀ {pre : List S49}, (∀ y ∈ pre, y.f0 ≠ p) → getB p (pre ++ x :: post) = (x.f1, true)
  | [], _ => by rw [List.nil_append, getB, if_pos (by rw [hx]; exact beq_self_eq_true _)]
  | y :: r, h => by
    rw [List.cons_append, getB, if_neg (fun c => h y List.mem_cons_self (tl_eq (beq_iff_eq.1 c))), getB_at hx post (fun z hz => h z (List.mem_cons_of_mem _ hz))]
theorem ne_of_lt {a b : ByteArray} (h : lt8 a b) : a ≠ b := fun e => lt8_irr b (e ▸ h)
/-- Where a path stands among files that rise. -/
theorem place (l : List S49) (p : ByteArray) (ha : Asc l) :
    (isF p l = true ∧ ∃ pre x post, l = pre ++ x :: post ∧ pre.length = atF p l ∧ x.f0 = p ∧ (∀ y ∈ pre, lt8 y.f0 p) ∧ (∀ y ∈ post, lt8 p y.f0)) ∨
    (isF p l = false ∧ ∃ pre post, l = pre ++ post ∧ pre.length = atF p l ∧ (∀ y ∈ pre, lt8 y.f0 p) ∧ (∀ y ∈ post, lt8 p y.f0)) := by
  have hs := at_split l p ha
  have hle := atF_le p l
  rcases isF_split l p ha with ⟨h1, x, r, h2, h3, h4⟩ | ⟨h1, h2⟩
  · exact .inl ⟨h1, l.take (atF p l), x, r, by rw [← h2, List.take_append_drop], by rw [List.length_take]; omega, h3, hs.1, h4⟩
  · exact .inr ⟨h1, l.take (atF p l), l.drop (atF p l), (List.take_append_drop ..).symm, by rw [List.length_take]; omega, hs.1, h2⟩
end Go.Proofs.YtnhhbmekjoanbaaDoor.P
namespace Go.Proofs.YtnhhbmekjoanbaaDoor.P
open Go.RowKit Go.Proofs.YtnhhbmekjoanbaaDoorW.PrintWords Go.Proofs.YtnhhbmekjoanbaaDoorW.PrintLast Go.Proofs.YtnhhbmekjoanbaaDoorW.PrintMore
set_option linter.unusedVariables false
def goneO (x : S49) : S45 := ⟨true, x.f0, ⟨#[]⟩⟩
def putO (x : S49) : S45 := ⟨false, x.f0, x.f1⟩
/-- Both lists, side by side. -/
def mergeD : Nat → List S49 → List S49 → List S45
  | 0, _, _ => []
  | n + 1, [], [] => []
  | n + 1, x :: a, [] => goneO x :: mergeD n a []
  | n + 1, [], y :: b => putO y :: mergeD n [] b
  | n + 1, x :: a, y :: b =>
    if Op.bytesLess x.f0.toList y.f0.toList = true then goneO x :: mergeD n a (y :: b)
    else if Op.bytesLess y.f0.toList x.f0.toList = true then putO y :: mergeD n (x :: a) b
    else if x.f1.toList = y.f1.toList then mergeD n a b else putO y :: mergeD n a b
def inD (a b : List S49) (o : S45) : Prop := (∃ x ∈ a, o = goneO x ∧ ∀ y ∈ b, y.f0 ≠ x.f0) ∨ (∃ y ∈ b, o = putO y ∧ y ∉ a)
theorem asc_cons {x : S49} {a : List S49} (h : Asc (x :: a)) : (∀ y ∈ a, lt8 x.f0 y.f0) ∧ Asc a := List.pairwise_cons.1 h
theorem mergeD_mem : ∀ (n : Nat) (a b : List S49), a.length + b.length ≤ n → Asc a → Asc b → ∀ o, o ∈ mergeD n a b ↔ inD a b o
  | 0, a, b, h, _, _, o => by
    have ha : a = [] := List.eq_nil_of_length_eq_zero (by omega)
    have hb : b = [] := List.eq_nil_of_length_eq_zero (by omega)
    subst ha; subst hb
    simp [mergeD, inD]
  | n + 1, [], [], _, _, _, o => by simp [mergeD, inD]
  | n + 1, x :: a, [], h, ha, hb, o => by
    have ih := mergeD_mem n a [] (by simp at h ⊢; omega) (asc_cons ha).2 hb o
    rw [mergeD, List.mem_cons, ih]
    simp [inD]
  | n + 1, [], y :: b, h, ha, hb, o => by
    have ih := mergeD_mem n [] b (by simp at h ⊢; omega) ha (asc_cons hb).2 o
    rw [mergeD, List.mem_cons, ih]
    simp [inD]
  | n + 1, x :: a, y :: b, h, ha, hb, o => by
    obtain ⟨ga, ha'⟩ := asc_cons ha
    obtain ⟨gb, hb'⟩ := asc_cons hb
    simp only [List.length_cons] at h
    rw [mergeD, less_lt, less_lt]
    by_cases h1 : lt8 x.f0 y.f0
    · rw [if_pos (decide_eq_true h1), List.mem_cons, mergeD_mem n a (y :: b) (by rw [List.length_cons]; omega) ha' hb o]
      have hx : ∀ z ∈ y :: b, z.f0 ≠ x.f0 := fun z hz => by
        rcases List.mem_cons.1 hz with rfl | hz
        · exact (ne_of_lt h1).symm
        · exact (ne_of_lt (lt8_trans h1 (gb z hz))).symm
      unfold inD
      constructor
      · rintro (rfl | ⟨z, hz, rfl, h2⟩ | ⟨z, hz, rfl, h2⟩)
        · exact .inl ⟨x, List.mem_cons_self, rfl, hx⟩
        · exact .inl ⟨z, List.mem_cons_of_mem _ hz, rfl, h2⟩
        · exact .inr ⟨z, hz, rfl, fun c => (List.mem_cons.1 c).elim (fun e => hx z hz (by rw [e])) h2⟩
      · rintro (⟨z, hz, rfl, h2⟩ | ⟨z, hz, rfl, h2⟩)
        · rcases List.mem_cons.1 hz with rfl | hz
          · exact .inl rfl
          · exact .inr (.inl ⟨z, hz, rfl, h2⟩)
        · exact .inr (.inr ⟨z, hz, rfl, fun c => h2 (List.mem_cons_of_mem _ c)⟩)
    · rw [if_neg (fun c => h1 (of_decide_eq_true c))]
      by_cases h2 : lt8 y.f0 x.f0
      · rw [if_pos (decide_eq_true h2), List.mem_cons, mergeD_mem n (x :: a) b (by rw [List.length_cons]; omega) ha hb' o]
        have hy : ∀ z ∈ x :: a, y.f0 ≠ z.f0 := fun z hz => by
          rcases List.mem_cons.1 hz with rfl | hz
          · exact ne_of_lt h2
          · exact ne_of_lt (lt8_trans h2 (ga z hz))
        unfold inD
        constructor
        · rintro (rfl | ⟨z, hz, rfl, h3⟩ | ⟨z, hz, rfl, h3⟩)
          · exact .inr ⟨y, List.mem_cons_self, rfl, fun c => hy y c rfl⟩
          · exact .inl ⟨z, hz, rfl, fun w hw => (List.mem_cons.1 hw).elim (fun e => by rw [e]; exact hy z hz) (h3 w)⟩
          · exact .inr ⟨z, List.mem_cons_of_mem _ hz, rfl, h3⟩
        · rintro (⟨z, hz, rfl, h3⟩ | ⟨z, hz, rfl, h3⟩)
          · exact .inr (.inl ⟨z, hz, rfl, fun w hw => h3 w (List.mem_cons_of_mem _ hw)⟩)
          · rcases List.mem_cons.1 hz with rfl | hz
            · exact .inl rfl
            · exact .inr (.inr ⟨z, hz, rfl, h3⟩)
      · rw [if_neg (fun c => h2 (of_decide_eq_true c))]
        have hxy : x.f0 = y.f0 := lt8_tri h1 h2
        have hay : ∀ z ∈ a, lt8 y.f0 z.f0 := fun z hz => by rw [← hxy]; exact ga z hz
        have hbx : ∀ z ∈ b, lt8 x.f0 z.f0 := fun z hz => by rw [hxy]; exact gb z hz
        have ih := mergeD_mem n a b (by omega) ha' hb' o
        -- what holds both ways
        have key : (∃ z ∈ a, o = goneO z ∧ ∀ w ∈ b, w.f0 ≠ z.f0) ∨ (∃ z ∈ b, o = putO z ∧ z ∉ a) ↔ (∃ z ∈ x :: a, o = goneO z ∧ ∀ w ∈ y :: b, w.f0 ≠ z.f0) ∨ (∃ z ∈ b, o = putO z ∧ z ∉ x :: a) := by
          constructor
          · rintro (⟨z, hz, h3, h4⟩ | ⟨z, hz, h3, h4⟩)
            · exact .inl ⟨z, List.mem_cons_of_mem _ hz, h3, fun w hw => (List.mem_cons.1 hw).elim (fun e => by rw [e]; exact ne_of_lt (hay z hz)) (h4 w)⟩
            · exact .inr ⟨z, hz, h3, fun c => (List.mem_cons.1 c).elim (fun e => ne_of_lt (hbx z hz) (by rw [e])) h4⟩
          · rintro (⟨z, hz, h3, h4⟩ | ⟨z, hz, h3, h4⟩)
            · rcases List.mem_cons.1 hz with rfl | hz
              · exact absurd hxy.symm (h4 y List.mem_cons_self)
              · exact .inl ⟨z, hz, h3, fun w hw => h4 w (List.mem_cons_of_mem _ hw)⟩
            · exact .inr ⟨z, hz, h3, fun c => h4 (List.mem_cons_of_mem _ c)⟩
        by_cases h5 : x.f1.toList = y.f1.toList
        · rw [if_pos h5, ih]
          have exy : x = y := by
            obtain ⟨x0, x1⟩ := x
            obtain ⟨y0, y1⟩ := y
            dsimp only at hxy h5
            rw [hxy, tl_eq h5]
          unfold inD
          rw [key]
          constructor
          · rintro (h6 | ⟨z, hz, h6⟩)
            · exact .inl h6
            · exact .inr ⟨z, List.mem_cons_of_mem _ hz, h6⟩
          · rintro (h6 | ⟨z, hz, h6, h7⟩)
            · exact .inl h6
            · rcases List.mem_cons.1 hz with rfl | hz
              · exact absurd (by rw [exy]; exact List.mem_cons_self) h7
              · exact .inr ⟨z, hz, h6, h7⟩
        · rw [if_neg h5, List.mem_cons, ih]
          unfold inD
          rw [key]
          have hyn : y ∉ x :: a := fun c => (List.mem_cons.1 c).elim (fun e => h5 (by rw [e])) (fun c => lt8_irr _ (hay y c))
          constructor
          · rintro (rfl | h6 | ⟨z, hz, h6⟩)
            · exact .inr ⟨y, List.mem_cons_self, rfl, hyn⟩
            · exact .inl h6
            · exact .inr ⟨z, List.mem_cons_of_mem _ hz, h6⟩
          · rintro (h6 | ⟨z, hz, h6, h7⟩)
            · exact .inr (.inl h6)
            · rcases List.mem_cons.1 hz with rfl | hz
              · exact .inl h6
              · exact .inr (.inr ⟨z, hz, h6, h7⟩)
def AscO (l : List S45) : Prop := l.Pairwise (fun x y => lt8 x.f1 y.f1)
theorem inD_path {a b : List S49} {o : S45} (h : inD a b o) : (∃ x ∈ a, o.f1 = x.f0) ∨ (∃ y ∈ b, o.f1 = y.f0) := by
  rcases h with ⟨x, hx, rfl, _⟩ | ⟨y, hy, rfl, _⟩
  · exact .inl ⟨x, hx, rfl⟩
  · exact .inr ⟨y, hy, rfl⟩
theorem mergeD_asc : ∀ (n : Nat) (a b : List S49), a.length + b.length ≤ n → Asc a → Asc b → AscO (mergeD n a b)
  | 0, a, b, h, _, _ => by simp [mergeD, AscO]
  | n + 1, [], [], _, _, _ => by simp [mergeD, AscO]
  | n + 1, x :: a, [], h, ha, hb => by
    have hn : a.length + ([] : List S49).length ≤ n := by simp at h ⊢; omega
    rw [mergeD]
    refine List.pairwise_cons.2 ⟨fun o ho => ?_, mergeD_asc n a [] hn (asc_cons ha).2 hb⟩
    rcases inD_path ((mergeD_mem n a [] hn (asc_cons ha).2 hb o).1 ho) with ⟨z, hz, e⟩ | ⟨z, hz, e⟩
    · rw [e]; exact (asc_cons ha).1 z hz
    · cases hz
  | n + 1, [], y :: b, h, ha, hb => by
    have hn : ([] : List S49).length + b.length ≤ n := by simp at h ⊢; omega
    rw [mergeD]
    refine List.pairwise_cons.2 ⟨fun o ho => ?_, mergeD_asc n [] b hn ha (asc_cons hb).2⟩
    rcases inD_path ((mergeD_mem n [] b hn ha (asc_cons hb).2 o).1 ho) with ⟨z, hz, e⟩ | ⟨z, hz, e⟩
    · cases hz
    · rw [e]; exact (asc_cons hb).1 z hz
  | n + 1, x :: a, y :: b, h, ha, hb => by
    obtain ⟨ga, ha'⟩ := asc_cons ha
    obtain ⟨gb, hb'⟩ := asc_cons hb
    simp only [List.length_cons] at h
    rw [mergeD, less_lt, less_lt]
    by_cases h1 : lt8 x.f0 y.f0
    · have hn : a.length + (y :: b).length ≤ n := by rw [List.length_cons]; omega
      rw [if_pos (decide_eq_true h1)]
      refine List.pairwise_cons.2 ⟨fun o ho => ?_, mergeD_asc n a (y :: b) hn ha' hb⟩
      rcases inD_path ((mergeD_mem n a (y :: b) hn ha' hb o).1 ho) with ⟨z, hz, e⟩ | ⟨z, hz, e⟩
      · rw [e]; exact ga z hz
      · rw [e]
        rcases List.mem_cons.1 hz with rfl | hz
        · exact h1
        · exact lt8_trans h1 (gb z hz)
    · rw [if_neg (fun c => h1 (of_decide_eq_true c))]
      by_cases h2 : lt8 y.f0 x.f0
      · have hn : (x :: a).length + b.length ≤ n := by rw [List.length_cons]; omega
        rw [if_pos (decide_eq_true h2)]
        refine List.pairwise_cons.2 ⟨fun o ho => ?_, mergeD_asc n (x :: a) b hn ha hb'⟩
        rcases inD_path ((mergeD_mem n (x :: a) b hn ha hb' o).1 ho) with ⟨z, hz, e⟩ | ⟨z, hz, e⟩
        · rw [e]
          rcases List.mem_cons.1 hz with rfl | hz
          · exact h2
          · exact lt8_trans h2 (ga z hz)
        · rw [e]; exact gb z hz
      · rw [if_neg (fun c => h2 (of_decide_eq_true c))]
        have hxy : x.f0 = y.f0 := lt8_tri h1 h2
        have hn : a.length + b.length ≤ n := by omega
        split
        · exact mergeD_asc n a b hn ha' hb'
        · refine List.pairwise_cons.2 ⟨fun o ho => ?_, mergeD_asc n a b hn ha' hb'⟩
          rcases inD_path ((mergeD_mem n a b hn ha' hb' o).1 ho) with ⟨z, hz, e⟩ | ⟨z, hz, e⟩
          · rw [e]; show lt8 y.f0 z.f0; rw [← hxy]; exact ga z hz
          · rw [e]; exact gb z hz
theorem getB_has {x : S49} {l : List S49} (ha : Asc l) (hx : x ∈ l) : getB x.f0 l = (x.f1, true) := by
  obtain ⟨s, t, rfl⟩ := List.append_of_mem hx
  refine getB_at rfl t (fun y hy => ?_)
  exact ne_of_lt ((List.pairwise_append.1 ha).2.2 y hy x List.mem_cons_self)
theorem getB_true {p : ByteArray} : ∀ {l : List S49}, (getB p l).2 = true → ∃ x ∈ l, x.f0 = p ∧ (getB p l).1 = x.f1
  | [], h => by cases h
  | x :: r, h => by
    rw [getB] at h ⊢
    split at h
    · rename_i h1
      rw [if_pos h1]
      exact ⟨x, List.mem_cons_self, tl_eq (beq_iff_eq.1 h1), rfl⟩
    · rename_i h1
      rw [if_neg h1]
      obtain ⟨y, hy, h2, h3⟩ := getB_true h
      exact ⟨y, List.mem_cons_of_mem _ hy, h2, h3⟩
theorem gone_iff (b : List S49) (hb : Asc b) : ∀ (a : List S49) (o : S45), o ∈ goneB b a ↔ ∃ x ∈ a, o = goneO x ∧ ∀ y ∈ b, y.f0 ≠ x.f0
  | [], o => by simp [goneB]
  | x :: r, o => by
    have hg : (getB x.f0 b).2 = true ↔ ¬ ∀ y ∈ b, y.f0 ≠ x.f0 := by
      constructor
      · intro h c
        obtain ⟨y, hy, h2, _⟩ := getB_true h
        exact c y hy h2
      · intro h
        refine Classical.byContradiction fun c => h (fun y hy e => c ?_)
        rw [← e, getB_has hb hy]
    rw [goneB]
    by_cases h : (getB x.f0 b).2 = true
    · rw [if_pos h, gone_iff b hb r o]
      constructor
      · rintro ⟨z, hz, h2⟩; exact ⟨z, List.mem_cons_of_mem _ hz, h2⟩
      · rintro ⟨z, hz, h2, h3⟩
        rcases List.mem_cons.1 hz with rfl | hz
        · exact absurd h3 (hg.1 h)
        · exact ⟨z, hz, h2, h3⟩
    · rw [if_neg h, List.mem_cons, gone_iff b hb r o]
      constructor
      · rintro (rfl | ⟨z, hz, h2⟩)
        · exact ⟨x, List.mem_cons_self, rfl, Classical.byContradiction fun c => h (hg.2 c)⟩
        · exact ⟨z, List.mem_cons_of_mem _ hz, h2⟩
      · rintro ⟨z, hz, h2, h3⟩
        rcases List.mem_cons.1 hz with rfl | hz
        · exact .inl h2
        · exact .inr ⟨z, hz, h2, h3⟩
theorem put_iff (a : List S49) (ha : Asc a) : ∀ (b : List S49) (o : S45), o ∈ putB a b ↔ ∃ y ∈ b, o = putO y ∧ y ∉ a
  | [], o => by simp [putB]
  | x :: r, o => by
    have hg : ((getB x.f0 a).2 = true ∧ ((getB x.f0 a).1.toList == x.f1.toList) = true) ↔ x ∈ a := by
      constructor
      · rintro ⟨h1, h2⟩
        obtain ⟨y, hy, h3, h4⟩ := getB_true h1
        rw [h4] at h2
        have : y = x := by
          obtain ⟨y0, y1⟩ := y
          obtain ⟨x0, x1⟩ := x
          dsimp only at h3 h2
          rw [h3, tl_eq (beq_iff_eq.1 h2)]
        rw [← this]; exact hy
      · intro h
        rw [getB_has ha h]
        exact ⟨rfl, beq_self_eq_true _⟩
    rw [putB]
    by_cases h : x ∈ a
    · rw [if_pos (hg.2 h), put_iff a ha r o]
      constructor
      · rintro ⟨z, hz, h2⟩; exact ⟨z, List.mem_cons_of_mem _ hz, h2⟩
      · rintro ⟨z, hz, h2, h3⟩
        rcases List.mem_cons.1 hz with rfl | hz
        · exact absurd h h3
        · exact ⟨z, hz, h2, h3⟩
    · rw [if_neg (fun c => h (hg.1 c)), List.mem_cons, put_iff a ha r o]
      constructor
      · rintro (rfl | ⟨z, hz, h2⟩)
        · exact ⟨x, List.mem_cons_self, rfl, h⟩
        · exact ⟨z, List.mem_cons_of_mem _ hz, h2⟩
      · rintro ⟨z, hz, h2, h3⟩
        rcases List.mem_cons.1 hz with rfl | hz
        · exact .inl h2
        · exact .inr ⟨z, hz, h2, h3⟩
theorem ascO_nodup {l : List S45} (h : AscO l) : l.Nodup := by
  refine List.Pairwise.imp ?_ h
  intro x y hxy e
  subst e
  exact lt8_irr _ hxy
theorem gone_asc (b : List S49) (hb : Asc b) : ∀ (a : List S49), Asc a → AscO (goneB b a)
  | [], _ => by simp [goneB, AscO]
  | x :: r, ha => by
    obtain ⟨g1, g2⟩ := asc_cons ha
    rw [goneB]
    split
    · exact gone_asc b hb r g2
    · refine List.pairwise_cons.2 ⟨fun o ho => ?_, gone_asc b hb r g2⟩
      obtain ⟨z, hz, rfl, _⟩ := (gone_iff b hb r o).1 ho
      exact g1 z hz
theorem put_asc (a : List S49) (ha : Asc a) : ∀ (b : List S49), Asc b → AscO (putB a b)
  | [], _ => by simp [putB, AscO]
  | x :: r, hb => by
    obtain ⟨g1, g2⟩ := asc_cons hb
    rw [putB]
    split
    · exact put_asc a ha r g2
    · refine List.pairwise_cons.2 ⟨fun o ho => ?_, put_asc a ha r g2⟩
      obtain ⟨z, hz, rfl, _⟩ := (put_iff a ha r o).1 ho
      exact g1 z hz
/-- The difference of two rows of files. -/
def diffD (a b : List S49) : List S45 := if (mayB a && mayB b) = true then mergeD (a.length + b.length) a b else []
theorem diff_f (a b : List S49) : files_Diff.f a b = some (diffD a b) := by
  unfold files_Diff.f diffD
  by_cases h : (mayB a && mayB b) = true
  · rw [if_pos h, if_pos h]
    obtain ⟨hma, hmb⟩ := Bool.and_eq_true_iff.1 h
    have ha := ((may_iff a).1 hma).2.1
    have hb := ((may_iff b).1 hmb).2.1
    have hasc := mergeD_asc (a.length + b.length) a b (Nat.le_refl _) ha hb
    congr 1
    symm
    refine ord_one (diff_apart a b hmb) ?_ ?_
    · rw [List.perm_ext_iff_of_nodup (ascO_nodup hasc)]
      · intro o
        rw [mergeD_mem _ a b (Nat.le_refl _) ha hb, List.mem_append, gone_iff b hb, put_iff a ha]
        exact Iff.rfl
      · rw [List.nodup_append]
        refine ⟨ascO_nodup (gone_asc b hb a ha), ascO_nodup (put_asc a ha b hb), ?_⟩
        intro x hx y hy e
        obtain ⟨p, _, rfl, _⟩ := (gone_iff b hb a x).1 hx
        obtain ⟨q, _, rfl, _⟩ := (put_iff a ha b y).1 hy
        exact absurd (congrArg (·.f0) e) (by simp [goneO, putO])
    · refine hasc.imp ?_
      intro x y hxy c
      rw [cmpS_lt] at c
      exact lt8_irr _ (lt8_trans hxy c)
  · rw [if_neg h, if_neg h]
end Go.Proofs.YtnhhbmekjoanbaaDoor.P
namespace Go.Proofs.YtnhhbmekjoanbaaDoor.P
open Go.RowKit Go.Proofs.YtnhhbmekjoanbaaDoorW.PrintWords Go.Proofs.YtnhhbmekjoanbaaDoorW.PrintLast Go.Proofs.YtnhhbmekjoanbaaDoorW.PrintMore
set_option linter.unusedVariables false
theorem nums2 (a b : UInt8) : strOfNums [(a.toNat : Int), (b.toNat : Int)] = ⟨#[a, b]⟩ := by
  unfold strOfNums
  simp
theorem rencode_l0 (ops : List S45) (hl : ops.length ≤ 100000) : ∀ (n k i : Nat) (t : ByteArray), ops.length - i = n → i ≤ ops.length → n * 2 + 200 < k → t.size ≤ i * 5000 → armadaref05_Encode.l0 k ops t (i : Int) = some (encB t (ops.drop i))
  | 0, k, i, t, hn, hi, hk, ht => by
    obtain ⟨k, rfl⟩ : ∃ k', k = k' + 1 := ⟨k - 1, by omega⟩
    rw [armadaref05_Encode.l0, if_neg (by omega), List.drop_eq_nil_iff.2 (by omega), encB]
    by_cases h : t.size > 4096
    · rw [if_pos (by omega), if_pos h]
    · rw [if_neg (by omega), if_neg h]
  | n + 1, k, i, t, hn, hi, hk, ht => by
    obtain ⟨k, rfl⟩ : ∃ k', k = k' + 1 + 1 := ⟨k - 2, by omega⟩
    rw [armadaref05_Encode.l0]
    cases hd : ops.drop i with
    | nil => have := List.drop_eq_nil_iff.1 hd; omega
    | cons o r =>
      obtain ⟨h1, h2, h3⟩ := rdO_drop hd
      rw [if_pos (by omega), if_pos (by omega), h1, rpath_f _ _ (by omega), Option.bind_some, encB_step]
      have hup : wrap64 ((i : Int) + 1) = ((i + 1 : Nat) : Int) := up1 i _ h2 (by omega)
      have ih := fun t ht => rencode_l0 ops hl n k (i + 1) t (by omega) (by omega) (by omega) ht
      rw [h3] at ih
      have hsz := opB_size o
      obtain ⟨o0, o1, o2⟩ := o
      dsimp only at hsz ⊢
      by_cases hp : pathB o1 = true
      · rw [if_pos hp]
        cases o0 with
        | true =>
          rw [if_pos rfl, armadaref05_Encode.j1]
          by_cases he : o2.toList = []
          · have hc : checkB ⟨true, o1, o2⟩ = 0 := by
              unfold checkB
              have h0 := (toList_nil o2).1 he
              rw [if_pos hp, if_neg (by rw [he]; simp), if_neg (by dsimp only; omega)]
            obtain ⟨g1, g2, g3⟩ := hsz hc
            have hw : strOfNums [1, (o1.size : Int) % 256] = ⟨#[1, o1.size.toUInt8]⟩ := by rw [u8_mod]; exact nums2 1 _
            rw [hc, if_pos (c := (0 : Int) = 0) rfl, if_neg (by rw [he]; decide), if_neg (by omega), if_pos rfl, Option.bind_some, hw, if_pos (by rw [sz2]; omega), if_pos (by rw [ByteArray.size_append, sz2]; omega), hup]
            have ho : opB ⟨true, o1, o2⟩ = ⟨#[1, o1.size.toUInt8]⟩ ++ o1 := by unfold opB; rw [if_pos rfl]
            rw [ho] at g1 ⊢
            rw [ByteArray.append_assoc]
            exact ih _ (by rw [ByteArray.size_append]; omega)
          · have hc : checkB ⟨true, o1, o2⟩ = 1 := by
              unfold checkB
              rw [if_pos hp, if_pos ⟨rfl, by dsimp only; cases h : o2.toList with | nil => exact absurd h he | cons a b => rfl⟩]
            rw [hc, if_neg (c := (1 : Int) = 0) (by decide), if_pos (by rw [bne_iff_ne]; exact he)]
        | false =>
          rw [if_neg (c := false = true) (by decide), armadaref05_Encode.j1, if_neg (c := false = true) (by decide)]
          by_cases hz : o2.size > 4096
          · have hc : checkB ⟨false, o1, o2⟩ = 2 := by
              unfold checkB
              rw [if_pos hp, if_neg (fun c => absurd c.1 Bool.false_ne_true), if_pos hz]
            rw [hc, if_neg (c := (2 : Int) = 0) (by decide), if_pos (by omega)]
          · have hc : checkB ⟨false, o1, o2⟩ = 0 := by
              unfold checkB
              rw [if_pos hp, if_neg (fun c => absurd c.1 Bool.false_ne_true), if_neg hz]
            obtain ⟨g1, g2, g3⟩ := hsz hc
            have hw : strOfNums [0, (o1.size : Int) % 256] = ⟨#[0, o1.size.toUInt8]⟩ := by rw [u8_mod]; exact nums2 0 _
            have hw2 : strOfNums [wrap64 ((o2.size : Int) / 256) % 256, (o2.size : Int) % 256] = ⟨#[(o2.size / 256).toUInt8, (o2.size % 256).toUInt8]⟩ := by
              rw [gw64 (by omega) (by omega), u8_div, show (o2.size : Int) % 256 = ((o2.size % 256).toUInt8.toNat : Int) by rw [← u8_mod]; omega]
              exact nums2 _ _
            rw [hc, if_pos (c := (0 : Int) = 0) rfl, if_neg (by omega), if_neg (c := false = true) (by decide), Option.bind_some, hw, if_pos (by rw [sz2]; omega), if_pos (by rw [ByteArray.size_append, sz2]; omega), Option.bind_some, hw2,
              if_pos (by simp only [ByteArray.size_append, sz2]; omega), if_pos (by simp only [ByteArray.size_append, sz2]; omega), hup]
            have ho : opB ⟨false, o1, o2⟩ = ⟨#[0, o1.size.toUInt8]⟩ ++ o1 ++ ⟨#[(o2.size / 256).toUInt8, (o2.size % 256).toUInt8]⟩ ++ o2 := by unfold opB; rw [if_neg Bool.false_ne_true]
            have e : t ++ ⟨#[0, o1.size.toUInt8]⟩ ++ o1 ++ ⟨#[(o2.size / 256).toUInt8, (o2.size % 256).toUInt8]⟩ ++ o2 = t ++ opB ⟨false, o1, o2⟩ := by rw [ho]; simp only [ByteArray.append_assoc]
            rw [e]
            exact ih _ (by rw [ByteArray.size_append]; omega)
      · have hc : checkB ⟨o0, o1, o2⟩ = 6 := by unfold checkB; rw [if_neg hp]
        rw [if_neg hp, hc, if_neg (c := (6 : Int) = 0) (by decide)]
theorem rencode_f (ops : List S45) (hl : ops.length ≤ 100000) (k : Nat) (hk : ops.length * 2 + 200 < k) : armadaref05_Encode.f k ops = some (encB ⟨#[]⟩ ops) := by
  unfold armadaref05_Encode.f
  exact rencode_l0 ops hl ops.length k 0 ⟨#[]⟩ (by omega) (Nat.zero_le _) hk (by decide)
end Go.Proofs.YtnhhbmekjoanbaaDoor.P
namespace Go.Proofs.YtnhhbmekjoanbaaDoor.P
open Go.RowKit Go.Proofs.YtnhhbmekjoanbaaDoorW.PrintWords Go.Proofs.YtnhhbmekjoanbaaDoorW.PrintLast Go.Proofs.YtnhhbmekjoanbaaDoorW.PrintMore
set_option linter.unusedVariables false
def lv : List S49 := [⟨⟨#[97, 47, 120]⟩, ⟨#[49]⟩⟩, ⟨⟨#[98]⟩, ⟨#[51]⟩⟩]
def lvO : List S45 := [⟨false, ⟨#[98]⟩, ⟨#[50, 50]⟩⟩, ⟨true, ⟨#[97]⟩, ⟨#[]⟩⟩]
def lvS : ByteArray := ⟨#[0, 1, 98, 0, 2, 50, 50, 1, 1, 97]⟩
theorem lv1 : files_Apply.f [] [⟨false, ⟨#[98]⟩, ⟨#[50]⟩⟩, ⟨false, ⟨#[97, 47, 120]⟩, ⟨#[49]⟩⟩, ⟨false, ⟨#[98]⟩, ⟨#[51]⟩⟩] = some (lv, 0) := by kernel_rfl
theorem lv2 : files_Apply.f lv [⟨true, ⟨#[99]⟩, ⟨#[]⟩⟩] = some ([], 5) := by kernel_rfl
theorem lv3 : files_Apply.f lv [⟨false, ⟨#[97, 47, 47, 98]⟩, ⟨#[]⟩⟩] = some ([], 6) := by kernel_rfl
theorem lv4 : files_Encode.f [⟨false, ⟨#[98]⟩, ⟨#[50, 50]⟩⟩, ⟨true, ⟨#[97]⟩, ⟨#[]⟩⟩] = some (lvS, 0) := by kernel_rfl
theorem lv5 : files_Decode.f lvS = some (lvO, 0) := by kernel_rfl
theorem lv6 : files_Decode.f (lvS ++ ⟨#[122]⟩) = some ([], 1) := by kernel_rfl
theorem lv7 : files_Get.f lv ⟨#[98]⟩ = some (⟨#[51]⟩, true) := by kernel_rfl
theorem lv8 : files_Diff.f lv [⟨⟨#[98]⟩, ⟨#[51]⟩⟩] = some [⟨true, ⟨#[97, 47, 120]⟩, ⟨#[]⟩⟩] := by rw [diff_f]; kernel_rfl
theorem lv9 : files_Path.f ⟨#[97, 47, 98, 46, 103, 111]⟩ = some true := by kernel_rfl
theorem lv10 : files_Path.f ⟨#[97, 47, 46, 46]⟩ = some false := by kernel_rfl
theorem lv11 : files_Path.f ⟨#[]⟩ = some false := by kernel_rfl
theorem lv12 : mayB lv = true := by kernel_rfl
theorem live_f (k : Nat) (hk : 100 ≤ k) : armadalaw05_live.f k = some true := by
  obtain ⟨k, rfl⟩ : ∃ k', k = k' + 1 := ⟨k - 1, by omega⟩
  unfold armadalaw05_live.f
  rw [lv1, Option.bind_some, lv2, Option.bind_some, lv3, Option.bind_some, lv4, Option.bind_some, lv5, Option.bind_some, if_pos (by decide), lv6, Option.bind_some, lv7, Option.bind_some, if_pos (by decide)]
  rw [armadalaw05_live.j0, if_neg (by decide), lv8, Option.bind_some, if_pos (by decide), if_pos (by decide), if_pos (by decide), if_pos (by decide), if_pos (by decide), if_pos (by decide), if_pos (by rw [ByteArray.toList_eq]), if_pos (by decide), if_pos (by rw [ByteArray.toList_eq]; rfl), if_pos (by decide)]
  rw [show rd_T45 (lvO, (0 : Int)).1 1 = ⟨true, ⟨#[97]⟩, ⟨#[]⟩⟩ from rfl, show rd_T45 [(⟨true, ⟨#[97, 47, 120]⟩, ⟨#[]⟩⟩ : S45)] 0 = ⟨true, ⟨#[97, 47, 120]⟩, ⟨#[]⟩⟩ from rfl,
    if_pos (by simp only [ByteArray.toList_eq]; decide), if_pos (by decide), if_pos (by decide), if_pos (by simp only [ByteArray.toList_eq]; decide), lv9, Option.bind_some, if_pos rfl, lv10, Option.bind_some, if_neg (by decide), lv11, Option.bind_some, if_neg (by decide)]
  rw [may_f lv k (by omega), Option.bind_some, if_pos lv12, same_f lv lv (by decide) k (by show 2 < k; omega), Option.bind_some, if_pos ((sameB_iff _ _).2 rfl), same_f lv [] (by decide) k (by show 2 < k; omega)]
  rfl
end Go.Proofs.YtnhhbmekjoanbaaDoor.P
namespace Go.Proofs.YtnhhbmekjoanbaaDoor.P
open Go.RowKit Go.Proofs.YtnhhbmekjoanbaaDoorW.PrintWords Go.Proofs.YtnhhbmekjoanbaaDoorW.PrintLast Go.Proofs.YtnhhbmekjoanbaaDoorW.PrintMore
set_option linter.unusedVariables false
set_option maxHeartbeats 2000000 in
theorem one_f (s : ByteArray) (hs : s.size ≤ 1000000) (k : Nat) (hk : 1 ≤ k) :
    ((firstB s).2.1 = true → ∃ n : Nat, 2 ≤ n ∧ n ≤ s.size ∧ (firstB s).2.2 = s.extract n s.size ∧ armadaref05_one.f k s = some ((firstB s).1.f0, (firstB s).1.f1, (firstB s).1.f2, (n : Int))) ∧
    ((firstB s).2.1 = false → armadaref05_one.f k s = some (false, ⟨#[]⟩, ⟨#[]⟩, 0)) := by
  obtain ⟨k, rfl⟩ : ∃ k', k = k' + 1 := ⟨k - 1, by omega⟩
  have bad : armadaref05_one.j0 (k + 1) s true = some (false, ⟨#[]⟩, ⟨#[]⟩, 0) := by rw [armadaref05_one.j0, if_pos rfl]
  obtain ⟨R, hR⟩ : ∃ R, R = armadaref05_one.f (k + 1) s := ⟨_, rfl⟩
  rw [← hR]
  unfold armadaref05_one.f at hR
  unfold firstB
  by_cases h1 : s.size < 2
  · rw [if_pos h1]
    rw [if_pos (by omega)] at hR
    exact ⟨fun c => absurd c Bool.false_ne_true, fun _ => hR.trans bad⟩
  · rw [if_neg h1]
    rw [if_neg (by omega), if_pos (by omega)] at hR
    have b0 : bt s 0 = ((s.get! 0).toNat : Int) := bt_get! (i := 0) (by omega)
    have b1 : bt s 1 = ((s.get! 1).toNat : Int) := bt_get! (i := 1) (by omega)
    have l0 := (s.get! 0).toNat_lt
    have l1 := (s.get! 1).toNat_lt
    have w1 : wrap64 ((s.get! 1).toNat : Int) = ((s.get! 1).toNat : Int) := gw64 (by omega) (by omega)
    have w2 : wrap64 ((s.size : Int) - 2) = (s.size : Int) - 2 := gw64 (by omega) (by omega)
    rw [b1, w1, w2, b0] at hR
    clear w2
    have hr : (s.extract 2 s.size).size = s.size - 2 := by rw [ByteArray.size_extract]; omega
    by_cases h2 : 1 < (s.get! 0).toNat
    · rw [if_pos h2]
      refine ⟨fun c => absurd c Bool.false_ne_true, fun _ => ?_⟩
      rw [hR]
      split
      · exact bad
      · rw [if_pos (by omega), decide_eq_true (by omega)]; exact bad
    · rw [if_neg h2, hr]
      by_cases h3 : s.size - 2 < (s.get! 1).toNat
      · rw [if_pos h3]
        rw [if_pos (by omega)] at hR
        exact ⟨fun c => absurd c Bool.false_ne_true, fun _ => hR.trans bad⟩
      · rw [if_neg h3]
        rw [if_neg (by omega), if_pos (by omega), decide_eq_false (by omega), armadaref05_one.j0, if_neg Bool.false_ne_true, if_pos (by omega), if_pos (by omega), b1, w1, b0] at hR
        obtain ⟨n, hn⟩ : ∃ n : Nat, n = 2 + (s.get! 1).toNat := ⟨_, rfl⟩
        have w3 : wrap64 (2 + ((s.get! 1).toNat : Int)) = (n : Int) := by rw [gw64 (by omega) (by omega)]; omega
        rw [w3] at hR
        clear w3 w1 b1
        have c2 : (2 : Int) ≤ (n : Int) := by omega
        have c3 : (n : Int) ≤ (s.size : Int) := by omega
        simp only [if_pos c2, if_pos c3] at hR
        have hq : (s.extract 2 s.size).extract (s.get! 1).toNat (s.size - 2) = s.extract n s.size := by rw [ext_ext s 2 s.size _ _ (by omega), hn]; congr 1; omega
        have hp : (s.extract 2 s.size).extract 0 (s.get! 1).toNat = s.extract 2 n := by rw [ext_ext s 2 s.size _ _ (by omega), hn]
        rw [hq, hp]
        by_cases h4 : (s.get! 0).toNat = 1
        · rw [if_pos h4]
          have c4 : ((s.get! 0).toNat : Int) = 1 := by omega
          simp only [if_pos c4] at hR
          refine ⟨fun _ => ⟨n, by omega, by omega, rfl, ?_⟩, fun c => absurd c (by simp)⟩
          rw [hR, show (((s.get! 0).toNat : Int) == 1) = true from beq_iff_eq.2 (by omega)]
          rfl
        · rw [if_neg h4]
          have c4 : ¬ ((s.get! 0).toNat : Int) = 1 := by omega
          simp only [if_neg c4] at hR
          unfold firstB.firstC
          clear hq hp
          have hqs : (s.extract n s.size).size = s.size - n := by rw [ByteArray.size_extract]; omega
          have w4 : wrap64 ((s.size : Int) - (n : Int)) = (s.size : Int) - (n : Int) := gw64 (by omega) (by omega)
          rw [hqs]
          rw [w4] at hR
          clear w4
          by_cases h5 : s.size - n < 2
          · rw [if_pos h5]
            have c5 : (s.size : Int) - (n : Int) < 2 := by omega
            simp only [if_pos c5] at hR
            exact ⟨fun c => absurd c Bool.false_ne_true, fun _ => hR⟩
          · rw [if_neg h5]
            have c5 : ¬ (s.size : Int) - (n : Int) < 2 := by omega
            have c6 : (0 : Int) ≤ (n : Int) := by omega
            have c7 : (n : Int) < (s.size : Int) := by omega
            simp only [if_neg c5, if_pos c6, if_pos c7] at hR
            have W5 := Aside0.mk (show wrap64 ((n : Int) + 1) = ((n + 1 : Nat) : Int) by rw [gw64 (by omega) (by omega)]; rfl)
            have W6 := Aside0.mk (show wrap64 ((s.size : Int) - (n : Int) - 2) = (s.size : Int) - (n : Int) - 2 from gw64 (by omega) (by omega))
            have bn := Aside0.mk (show bt s (n : Int) = ((s.get! n).toNat : Int) from bt_get! (by omega))
            have bn1 := Aside0.mk (show bt s ((n + 1 : Nat) : Int) = ((s.get! (n + 1)).toNat : Int) from bt_get! (by omega))
            have g0 : (s.extract n s.size).get! 0 = s.get! n := by rw [get_ext (by omega)]; rfl
            have g1 : (s.extract n s.size).get! 1 = s.get! (n + 1) := get_ext (by omega)
            have ln := (s.get! n).toNat_lt
            have ln1 := (s.get! (n + 1)).toNat_lt
            have V1 := Aside0.mk (gw64 (x := ((s.get! n).toNat : Int)) (by omega) (by omega))
            have V2 := Aside0.mk (gw64 (x := ((s.get! (n + 1)).toNat : Int)) (by omega) (by omega))
            have V3 := Aside0.mk (gw64 (x := 256 * ((s.get! n).toNat : Int)) (by omega) (by omega))
            have W7 := Aside0.mk (show wrap64 (256 * ((s.get! n).toNat : Int) + ((s.get! (n + 1)).toNat : Int)) = (((s.get! n).toNat * 256 + (s.get! (n + 1)).toNat : Nat) : Int) by rw [gw64 (by omega) (by omega)]; omega)
            rw [W5.out, W6.out, bn.out, bn1.out, V1.out, V2.out, V3.out, W7.out] at hR
            clear W5 W6 bn bn1 V1 V2 V3 W7
            rw [g0, g1]
            generalize (s.get! n).toNat * 256 + (s.get! (n + 1)).toNat = m at *
            have hz : (s.extract n s.size).extract 2 (s.size - n) = s.extract (n + 2) s.size := by rw [ext_ext s n s.size _ _ (by omega)]; congr 1; omega
            have hzs : (s.extract (n + 2) s.size).size = s.size - n - 2 := by rw [ByteArray.size_extract]; omega
            rw [hz, hzs]
            have c8 : (0 : Int) ≤ ((n + 1 : Nat) : Int) := by omega
            have c9 : ((n + 1 : Nat) : Int) < (s.size : Int) := by omega
            simp only [if_pos c8, if_pos c9] at hR
            by_cases h6 : s.size - n - 2 < m
            · rw [if_pos h6]
              have d1 : (s.size : Int) - (n : Int) - 2 < (m : Int) := by omega
              simp only [if_pos d1] at hR
              exact ⟨fun c => absurd c Bool.false_ne_true, fun _ => hR⟩
            · have d1 : ¬ (s.size : Int) - (n : Int) - 2 < (m : Int) := by omega
              have d2 : (0 : Int) ≤ ((n + 2 : Nat) : Int) := by omega
              have d3 : ((n + 2 : Nat) : Int) ≤ ((n + 2 + m : Nat) : Int) := by omega
              have d4 : ((n + 2 + m : Nat) : Int) ≤ (s.size : Int) := by omega
              have w8 := Aside0.mk (show wrap64 ((n : Int) + 2) = ((n + 2 : Nat) : Int) by rw [gw64 (by omega) (by omega)]; rfl)
              have w9 := Aside0.mk (show wrap64 (((n + 2 : Nat) : Int) + (m : Int)) = ((n + 2 + m : Nat) : Int) by rw [gw64 (by omega) (by omega)]; omega)
              rw [if_neg h6]
              rw [w8.out, w9.out] at hR
              clear w8 w9
              simp only [if_neg d1, if_pos d2, if_pos d3, if_pos d4] at hR
              refine ⟨fun _ => ⟨n + 2 + m, by omega, by omega, ?_, ?_⟩, fun c => absurd c (by simp)⟩
              · dsimp only
                rw [ext_ext s _ _ _ _ (by omega)]; congr 1; omega
              · rw [hR]
                dsimp only
                rw [ext_ext s _ _ _ _ (by omega), show (((s.get! 0).toNat : Int) == 1) = false from beq_eq_false_iff_ne.2 (by omega)]
                rfl
def finB (s : ByteArray) (l : List S45) : List S45 × Int := if (encB ⟨#[]⟩ l).2 = 0 then (if (encB ⟨#[]⟩ l).1.toList = s.toList then (l, 0) else ([], 1)) else ([], 1)
theorem rdecode_l0 (s : ByteArray) (hs : s.size ≤ 100000) : ∀ (f k i : Nat) (out : List S45), i ≤ s.size → s.size - i ≤ f → f * 3 + out.length * 2 + 300 < k → out.length + f ≤ 100000 → armadaref05_Decode.l0 k s out (i : Int) = some (if (opsF f (s.extract i s.size)).2 = true then finB s (out ++ (opsF f (s.extract i s.size)).1) else ([], 1))
  | 0, k, i, out, hi, hf, hk, ho => by
    obtain ⟨k, rfl⟩ : ∃ k', k = k' + 1 := ⟨k - 1, by omega⟩
    rw [armadaref05_Decode.l0, if_neg (by omega), rencode_f out (by omega) k (by omega), Option.bind_some, opsF, if_pos rfl, List.append_nil]
    unfold finB
    split <;> (try split) <;> rfl
  | f + 1, k, i, out, hi, hf, hk, ho => by
    obtain ⟨k, rfl⟩ : ∃ k', k = k' + 1 := ⟨k - 1, by omega⟩
    have hts : (s.extract i s.size).size = s.size - i := by rw [ByteArray.size_extract]; omega
    rw [armadaref05_Decode.l0, opsF, hts]
    by_cases h : i < s.size
    · rw [if_pos (by omega), if_pos (by omega), if_pos (by omega), if_neg (show ¬ (s.size - i = 0) by omega), Int.toNat_natCast]
      obtain ⟨h1, h2⟩ := one_f (s.extract i s.size) (by omega) k (by omega)
      by_cases hb : (firstB (s.extract i s.size)).2.1 = true
      · obtain ⟨n, n1, n2, n3, n4⟩ := h1 hb
        rw [hts] at n2 n3
        rw [n4, Option.bind_some, if_neg (by dsimp only; omega), if_pos (by omega), if_pos hb, n3]
        have hx : (s.extract i s.size).extract n (s.size - i) = s.extract (i + n) s.size := by rw [ext_ext s i s.size _ _ (by omega)]; congr 1; omega
        rw [hx, gw64 (by dsimp only; omega) (by dsimp only; omega), show (i : Int) + (n : Int) = ((i + n : Nat) : Int) by omega, rdecode_l0 s hs f k (i + n) _ (by omega) (by omega) (by rw [List.length_append, List.length_singleton]; omega) (by rw [List.length_append, List.length_singleton]; omega), List.append_assoc]
        rfl
      · rw [h2 (by simpa using hb), Option.bind_some, if_pos rfl, if_neg hb]
        rfl
    · rw [if_neg (by omega), if_pos (show s.size - i = 0 by omega), rencode_f out (by omega) k (by omega), Option.bind_some, if_pos rfl, List.append_nil]
      unfold finB
      split <;> (try split) <;> rfl
theorem rdecode_f (s : ByteArray) (hs : s.size ≤ 50000) (k : Nat) (hk : s.size * 3 + 301 < k) : armadaref05_Decode.f k s = some (decB s) := by
  unfold armadaref05_Decode.f
  rw [show (0 : Int) = ((0 : Nat) : Int) from rfl, rdecode_l0 s (by omega) s.size k 0 [] (Nat.zero_le _) (by omega) (by simp; omega) (by simp; omega), ext_all, List.nil_append]
  unfold decB finB
  congr 1
  by_cases h1 : (opsF s.size s).2 = true
  · rw [if_pos h1]
    by_cases h2 : (encB ⟨#[]⟩ (opsF s.size s).1).2 = 0
    · rw [if_pos h2]
      by_cases h3 : (encB ⟨#[]⟩ (opsF s.size s).1).1 = s
      · rw [if_pos (by rw [h3]), if_pos ⟨h1, h2, h3⟩]
      · rw [if_neg (fun c => h3 (tl_eq c)), if_neg (fun c => h3 c.2.2)]
    · rw [if_neg h2, if_neg (fun c => h2 c.2.1)]
  · rw [if_neg h1, if_neg (fun c => h1 c.1)]
end Go.Proofs.YtnhhbmekjoanbaaDoor.P
set_option linter.unusedVariables false
set_option linter.unusedSimpArgs false
namespace Go.Proofs.YtnhhbmekjoanbaaDoor.Pure
open Go.RowKit Go.Proofs.YtnhhbmekjoanbaaDoorW.PrintWords Go.Proofs.YtnhhbmekjoanbaaDoorW.PrintLast Go.Proofs.YtnhhbmekjoanbaaDoorW.PrintMore Go.Proofs.YtnhhbmekjoanbaaDoor.P
theorem dec_len (s : ByteArray) : (decB s).1.length ≤ s.size := by
  unfold decB
  split
  · exact opsF_len _ _
  · exact Nat.zero_le _
theorem codes0 (k : Nat) (ops : List S45) (s : ByteArray) (ho : ops.length ≤ 100) (hs : s.size ≤ 5000) (hk : 20000 ≤ k) : armadalaw05_FilesCodes.j0 (k + 1) ops s false = some true := by
  have h1 := dec_len s
  rw [armadalaw05_FilesCodes.j0, if_neg (by decide), show files_Encode.f ops = some (encB ⟨#[]⟩ ops) by unfold files_Encode.f; rw [if_pos (by omega)], Option.bind_some, rencode_f ops (by omega) k (by omega), Option.bind_some,
    show files_Decode.f s = some (decB s) by unfold files_Decode.f; rw [if_pos (by omega)], Option.bind_some, rdecode_f s (by omega) k (by omega), Option.bind_some, if_pos rfl, if_pos rfl, ops_f _ _ (by omega) k (by omega), Option.bind_some, if_pos ((opsB_iff _ _).2 rfl), if_pos rfl, live_f k (by omega)]
  rfl
theorem codes0t (k : Nat) (ops : List S45) (s : ByteArray) (hk : 20000 ≤ k) : armadalaw05_FilesCodes.j0 (k + 1) ops s true = some true := by
  rw [armadalaw05_FilesCodes.j0, if_pos rfl, live_f k (by omega)]; rfl
theorem FilesCodes (ops : List S45) (s : ByteArray) (ho : ops.length ≤ 9223372036854775807) : ∃ k, armadalaw05_FilesCodes.f k ops s = some true := by
  refine ⟨ops.length + 20000 + 1, ?_⟩
  unfold armadalaw05_FilesCodes.f
  rw [few_f ops ho _ (by omega), Option.bind_some]
  by_cases hf : fewB ops = true
  · rw [if_pos hf]
    by_cases hs : s.size ≤ 5000
    · rw [decide_eq_false (by omega)]; exact codes0 _ ops s (few_len hf) hs (by omega)
    · rw [decide_eq_true (by omega)]; exact codes0t _ ops s (by omega)
  · rw [if_neg hf]; exact codes0t _ ops s (by omega)
end Go.Proofs.YtnhhbmekjoanbaaDoor.Pure
