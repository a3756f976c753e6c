/- journal: what live tells. -/
import Derived.Test.YthoddglnfdmdeaaZJAM9
import Derived.Test.YthoddglnfdmdeaaZJAM3
import Derived.Test.YthoddglnfdmdeaaZJAM0
import Derived.Test.YthoddglnfdmdeaaZJAM1
import Derived.Test.YthoddglnfdmdeaaZJAH5
import Derived.Test.YthoddglnfdmdeaaZJAH3
import Derived.Test.YthoddglnfdmdeaaZJAH1
import Derived.OpenShut
import Derived.Deep.Slices
import Derived.ChangeArms
import Derived.SizedLaws
import Derived.Test.YthoddglnfdmdeaaZJAM4
import Derived.Test.YthoddglnfdmdeaaZJAM2
import Derived.Test.YthoddglnfdmdeaaZJAM5
import Derived.Laws.BitsLemmas
import Derived.Test.YthoddglnfdmdeaaZJAH6
import Derived.Test.YthoddglnfdmdeaaZJAM6
import Derived.Test.YthoddglnfdmdeaaZJAM8
import Derived.Test.YthoddglnfdmdeaaZJAM7
import Derived.Test.YthoddglnfdmdeaaZJAM10
set_option linter.unusedVariables false
set_option linter.unusedSimpArgs false
namespace Go.Proofs.Ythoddglnfdmdeaa.P
open Go.RowKit Go.Proofs.YthoddglnfdmdeaaW.PrintWords Go.Proofs.YthoddglnfdmdeaaW.PrintLast Go.Proofs.YthoddglnfdmdeaaW.PrintMore
set_option maxRecDepth 100000 in
theorem live_f0 : armadalaw04_live.f 200 = some true := by decide +kernel
theorem live_f (k : Nat) (hk : 200 ≤ k) : armadalaw04_live.f k = some true := by
  induction k with
  | zero => omega
  | succ k ih =>
    by_cases h : k + 1 = 200
    · rw [h]; exact live_f0
    · exact armadalaw04_live.mono _ _ (ih (by omega))
end Go.Proofs.Ythoddglnfdmdeaa.P
set_option linter.unusedVariables false
set_option linter.unusedSimpArgs false
namespace Go.Proofs.Ythoddglnfdmdeaa.P
open Go.RowKit Go.Proofs.YthoddglnfdmdeaaW.PrintWords Go.Proofs.YthoddglnfdmdeaaW.PrintLast Go.Proofs.YthoddglnfdmdeaaW.PrintMore
def isB (s : List ByteArray) (a : Int) : Bool := decide (0 ≤ a) && decide (a < (s.length : Int))
def fil (x : ByteArray) : ByteArray := x ++ zerosB (32 - x.size)
def putZ (s : List ByteArray) (c : List S29) (a : Int) (x : ByteArray) : List ByteArray × List S29 × Int :=
  if (mayB s c && isB s a) = true then (if x.size ≤ 32 then (s, c ++ [⟨a, fil x⟩], 0) else (s, c, 2)) else (s, c, 1)
theorem put_f (s : List ByteArray) (c : List S29) (a : Int) (x : ByteArray) (hs : s.length ≤ 9223372036854775807) (hc : c.length ≤ 1000000) (k : Nat) (hk : s.length + c.length + 10 ≤ k) : disk_Put.f k s c a x = some (putZ s c a x) := by
  obtain ⟨k, rfl⟩ : ∃ k', k = k' + 1 := ⟨k - 1, by omega⟩
  unfold disk_Put.f putZ
  rw [may_f s c hs (by omega) _ (by omega)]
  simp only [Option.bind_some]
  by_cases hm : mayB s c = true
  · rw [if_pos hm, is_f, hm, Bool.true_and]
    simp only [Option.bind_some]
    rw [disk_Put.j0]
    change (if (!isB s a) = true then _ else _) = _
    by_cases hi : isB s a = true
    · rw [hi, if_neg (by decide), if_pos rfl]
      by_cases hx : x.size ≤ 32
      · rw [if_neg (by omega), if_pos (by simp; omega), if_pos hx]
        simp only [Option.bind_some, List.nil_append]
        rw [show disk_filled.f x = some (fil x) from if_pos hx]
        simp only [Option.bind_some]
        rw [if_pos (by omega)]
      · rw [if_pos (by omega), if_neg hx]
    · rw [if_neg hi, if_pos (by simp [hi])]
  · rw [if_neg hm, disk_Put.j0, if_pos rfl, if_neg (by simp [hm])]
theorem rmay_l1 (s : List ByteArray) (c : List S29) (hc : c.length ≤ 1000000) : ∀ (r : List S29) (i k : Nat), c.drop i = r → i ≤ c.length → r.length + 2 ≤ k →
    armadaref01_May.l1 k (i : Int) s c = some (r.all (okW s.length) && (decide (1 ≤ s.length) && decide (s.length ≤ 512)))
  | [], i, k, hr, hi, hk => by
    obtain ⟨k, rfl⟩ : ∃ k', k = k' + 1 := ⟨k - 1, by omega⟩
    have : i = c.length := by have := List.drop_eq_nil_iff.1 hr; omega
    subst this
    rw [armadaref01_May.l1, if_neg (by omega), List.all_nil, Bool.true_and]
    by_cases h : 1 ≤ s.length
    · rw [if_pos (by omega), decide_eq_true h, Bool.true_and]; congr 1; exact decide_eq_decide.2 (by omega)
    · rw [if_neg (by omega), decide_eq_false h, Bool.false_and]
  | x :: r, i, k, hr, hi, hk => by
    obtain ⟨k, rfl⟩ : ∃ k', k = k' + 1 := ⟨k - 1, by omega⟩
    obtain ⟨hx, hlt, hd⟩ := rdW_drop hr
    have hk' : r.length + 2 ≤ k := by rw [List.length_cons] at hk; omega
    have ih := rmay_l1 s c hc r (i + 1) k hd (by omega) hk'
    rw [armadaref01_May.l1, if_pos (by omega), if_pos (by omega), hx, wsucc i (by omega), ih, List.all_cons]
    unfold okW
    by_cases h1 : x.f0 < 0
    · rw [if_pos h1, decide_eq_false (show ¬ (0 : Int) ≤ x.f0 by omega)]; simp
    · rw [if_neg h1, decide_eq_true (show (0 : Int) ≤ x.f0 by omega)]
      by_cases h2 : x.f0 ≥ (s.length : Int)
      · rw [if_pos h2, decide_eq_false (show ¬ x.f0 < (s.length : Int) by omega)]; simp
      · rw [if_neg h2, decide_eq_true (show x.f0 < (s.length : Int) by omega)]
        by_cases h3 : x.f1.size = 32
        · rw [if_pos (by omega)]; simp [h3]
        · rw [if_neg (by omega)]; simp [h3]
theorem rmay_l0 (s : List ByteArray) (c : List S29) (hs : s.length ≤ 1000000) (hc : c.length ≤ 1000000) : ∀ (r : List ByteArray) (i k : Nat), s.drop i = r → i ≤ s.length → r.length + c.length + 4 ≤ k →
    armadaref01_May.l0 k (i : Int) s c = some (r.all secB && (c.all (okW s.length) && (decide (1 ≤ s.length) && decide (s.length ≤ 512))))
  | [], i, k, hr, hi, hk => by
    obtain ⟨k, rfl⟩ : ∃ k', k = k' + 1 := ⟨k - 1, by omega⟩
    have : i = s.length := by have := List.drop_eq_nil_iff.1 hr; omega
    subst this
    have h1 := rmay_l1 s c hc c 0 k rfl (Nat.zero_le _) (by simp at hk; omega)
    rw [Int.natCast_zero] at h1
    rw [armadaref01_May.l0, if_neg (by omega), h1]; rfl
  | x :: r, i, k, hr, hi, hk => by
    obtain ⟨k, rfl⟩ : ∃ k', k = k' + 1 := ⟨k - 1, by omega⟩
    obtain ⟨hx, hlt, hd⟩ := rdOf_drop hr
    have hk' : r.length + c.length + 4 ≤ k := by rw [List.length_cons] at hk; omega
    have ih := rmay_l0 s c hs hc r (i + 1) k hd (by omega) hk'
    rw [armadaref01_May.l0, if_pos (by omega), if_pos (by omega), hx, wsucc i (by omega), ih, List.all_cons]
    unfold secB
    by_cases h3 : x.size = 32
    · rw [if_pos (by omega)]; simp [h3]
    · rw [if_neg (by omega)]; simp [h3]
theorem rmay_f (s : List ByteArray) (c : List S29) (hs : s.length ≤ 1000000) (hc : c.length ≤ 1000000) (k : Nat) (hk : s.length + c.length + 6 ≤ k) : armadaref01_May.f k s c = some (mayB s c) := by
  have h := rmay_l0 s c hs hc s 0 k rfl (Nat.zero_le _) (by omega)
  rw [Int.natCast_zero] at h
  unfold armadaref01_May.f mayB
  rw [h]
  congr 1
  cases s.all secB <;> cases c.all (okW s.length) <;> cases decide (1 ≤ s.length) <;> cases decide (s.length ≤ 512) <;> rfl
end Go.Proofs.Ythoddglnfdmdeaa.P
set_option linter.unusedVariables false
set_option linter.unusedSimpArgs false
namespace Go.Proofs.Ythoddglnfdmdeaa.Pl
open Go.RowKit Go.Proofs.Ythoddglnfdmdeaa.P Go.Proofs.YthoddglnfdmdeaaW.PrintWords
/-- One byte rolled in: (high, low). -/
def stepR (s : Int × Int) (c : Int) : Int × Int := ((s.1 + (s.2 + c) % 65521) % 65521, (s.2 + c) % 65521)
def rollP (s : Int × Int) (l : List Int) : Int × Int := l.foldl stepR s
/-- A pair is within. -/
def InP (s : Int × Int) : Prop := 0 ≤ s.1 ∧ s.1 < 65521 ∧ 0 ≤ s.2 ∧ s.2 < 65521
theorem stepR_in {s : Int × Int} (c : Int) : InP (stepR s c) := by unfold InP stepR; simp only; omega
theorem rollP_in {s : Int × Int} (h : InP s) : ∀ l, InP (rollP s l) := by
  intro l
  induction l generalizing s with
  | nil => exact h
  | cons c l ih => exact ih (stepR_in c)
def num (s : Int × Int) : Int := s.1 * 65536 + s.2
theorem num_range {s : Int × Int} (h : InP s) : 0 ≤ num s ∧ num s ≤ 4294967295 := by unfold num InP at *; omega
theorem roll_l0 (s : ByteArray) (hs : s.size ≤ 140737488351232) (d : Nat) : ∀ (k i : Nat) (p : Int × Int), InP p → i ≤ s.size → s.size - i = d → d < k →
    sum_Roll.l0 k s p.1 p.2 (s.size : Int) (i : Int) = some (num (rollP p ((bs s).drop i))) := by
  induction d with
  | zero =>
    intro k i p hp h1 hd hk
    obtain ⟨k, rfl⟩ : ∃ m, k = m + 1 := ⟨k - 1, by omega⟩
    simp only [sum_Roll.l0]
    rw [if_neg (by omega), List.drop_of_length_le (by rw [bs_length]; omega)]
    unfold InP at hp
    rw [w64 (x := p.1 * 65536) (by omega) (by omega), w64 (by omega) (by omega)]
    rfl
  | succ d ih =>
    intro k i p hp h1 hd hk
    obtain ⟨k, rfl⟩ : ∃ m, k = m + 1 := ⟨k - 1, by omega⟩
    have hb := bt_range s (i : Int)
    simp only [sum_Roll.l0]
    rw [if_pos (by omega), if_pos (by omega), if_pos (by omega), bs_drop s i (by omega)]
    have hp' := hp
    unfold InP at hp'
    rw [w64 (x := bt s i) (by omega) (by omega), w64 (x := p.2 + bt s i) (by omega) (by omega), tmod_pos (x := p.2 + bt s i) (by omega), w64 (x := p.1 + _) (by omega) (by omega), tmod_pos (by omega), w64 (x := (i : Int) + 1) (by omega) (by omega)]
    have := ih k (i + 1) (stepR p (bt s i)) (stepR_in _) (by omega) (by omega) (by omega)
    exact this
/-- What Roll comes to at any number. -/
def rollSpec (n : Int) (l : List Int) : Int := if 0 ≤ n ∧ n / 65536 < 65521 ∧ n % 65536 < 65521 then num (rollP (n / 65536, n % 65536) l) else 0
theorem halves_spec (n : Int) (h1 : -9223372036854775808 ≤ n) (h2 : n ≤ 9223372036854775807) : ∃ a b, sum_halves.f n = some (a, b, decide (0 ≤ n ∧ n / 65536 < 65521 ∧ n % 65536 < 65521)) ∧ (0 ≤ n → a = n / 65536 ∧ b = n % 65536) := by
  refine ⟨wrap64 (Int.tdiv n 65536), Int.tmod n 65536, ?_, ?_⟩
  · unfold sum_halves.f
    by_cases h0 : 0 ≤ n
    · rw [if_pos h0, tdiv_pos h0, tmod_pos h0, w64 (by omega) (by omega)]
      by_cases h3 : n / 65536 < 65521
      · rw [if_pos h3]; simp [h0, h3]
      · rw [if_neg h3]; simp [h3]
    · rw [if_neg (by omega)]
      simp [h0]
  · intro h0
    rw [tdiv_pos h0, tmod_pos h0, w64 (by omega) (by omega)]
    exact ⟨rfl, rfl⟩
theorem roll_spec (n : Int) (s : ByteArray) (h1 : -9223372036854775808 ≤ n) (h2 : n ≤ 9223372036854775807) (hs : s.size ≤ 140737488351232) (k : Nat) (hk : s.size < k) :
    sum_Roll.f k n s = some (rollSpec n (bs s)) := by
  obtain ⟨a, b, e, hab⟩ := halves_spec n h1 h2
  unfold sum_Roll.f
  rw [e]
  simp only [Option.bind_some]
  by_cases hc : 0 ≤ n ∧ n / 65536 < 65521 ∧ n % 65536 < 65521
  · rw [if_pos (by simpa using hc)]
    obtain ⟨rfl, rfl⟩ := hab hc.1
    have := roll_l0 s hs s.size k 0 (n / 65536, n % 65536) (by unfold InP; simp only; omega) (by omega) (by omega) hk
    simp only [List.drop_zero] at this
    rw [rollSpec, if_pos hc]
    exact this
  · rw [if_neg (by simpa using hc), rollSpec, if_neg hc]
/-- The sum of bytes. -/
def ofP (l : List Int) : Int × Int := rollP (0, 1) l
theorem ofP_in (l : List Int) : InP (ofP l) := rollP_in (by unfold InP; simp only; omega) l
theorem of_spec (s : ByteArray) (hs : s.size ≤ 140737488351232) (k : Nat) (hk : s.size < k) : sum_Of.f k s = some (num (ofP (bs s))) := by
  unfold sum_Of.f
  rw [roll_spec 1 s (by omega) (by omega) hs k hk]
  simp only [Option.bind_some]
  rfl
end Go.Proofs.Ythoddglnfdmdeaa.Pl
set_option linter.unusedVariables false
set_option linter.unusedSimpArgs false
namespace Go.Proofs.Ythoddglnfdmdeaa.Op
open Go.RowKit Go.Deep Go.ChangeShapes Go.WideShapes Go.Proofs.YthoddglnfdmdeaaW.PrintWords Go.Proofs.YthoddglnfdmdeaaW.PrintLast Go.Proofs.YthoddglnfdmdeaaW.PrintMore
/-- No row and no text in it weighs more than what can be reached. -/
def Light {H : Type} (P : Program) (t : TypeId) (d : DataW H) : Prop := ∀ n ∈ d.weights P t, n ≤ reachBytes
theorem Light.each {H : Type} {P : Program} : ∀ {ts : List TypeId} {ds : List (DataW H)}, (∀ n ∈ DataW.weightsEach P ts ds, n ≤ reachBytes) → ∀ (j : Nat) {t : TypeId} {d : DataW H}, ts[j]? = some t → ds[j]? = some d → Light P t d :=
  fun h _ _ _ ht hd n hn => h n (DataW.weights_mem_each ht hd n hn)
theorem Light.all {H : Type} {P : Program} {e : TypeId} : ∀ {ds : List (DataW H)}, (∀ n ∈ DataW.weightsAll P e ds, n ≤ reachBytes) → ∀ (j : Nat) {d : DataW H}, ds[j]? = some d → Light P e d
  | [], _, j, d, hd => by simp at hd
  | x :: r, h, 0, d, hd => by
    obtain rfl : x = d := by simpa using hd
    intro n hn
    exact h n (by simp only [DataW.weightsAll, List.mem_append]; exact .inl hn)
  | x :: r, h, j + 1, d, hd => Light.all (ds := r) (fun n hn => h n (by simp only [DataW.weightsAll, List.mem_append]; exact .inr hn)) j (by simpa using hd)
theorem Light.arg {H : Type} {P : Program} {ts : List TypeId} {ds : List (DataW H)} (h : (DataW.weightsEach P ts ds).all (· ≤ reachBytes) = true) (j : Nat) {t : TypeId} {d : DataW H} (ht : ts[j]? = some t) (hd : ds[j]? = some d) : Light P t d :=
  Light.each (fun n hn => of_decide_eq_true (List.all_eq_true.1 h n hn)) j ht hd
/-- How cells of a type read. -/
structure Cdc (P : Program) (t : TypeId) (α : Type) where
  sz : Nat
  K : World → α → List Value → Prop
  hsz : P.cellsOf t = sz
  len : ∀ {w a cs}, K w a cs → cs.length = sz
  opens : ∀ {H : Type} {enc : TypeId × Value → H} {w : World} {base : Nat} {spare : Nat → Bool} {held : Bool} {fuel : Nat} {cs : List Value} {x : DataW H × List MemPlace},
    DataW.trod enc P w base spare held fuel t cs = some x → Light P t x.1 → ∃ a, K w a cs
def Cdc.int {P : Program} {t : TypeId} {k : IntKind} (ht : P.underlying t = some (.int k)) (hc : P.cellsOf t = 1) : Cdc P t Int where
  sz := 1
  K := fun _ a cs => cs = [.int k a] ∧ (Lit.int k a).wf = true
  hsz := hc
  len := fun h => by rw [h.1]; rfl
  opens := fun h _ => by
    obtain ⟨n, h1, _, h2⟩ := DataW.trod_int ht h
    exact ⟨n, h1, h2⟩
def Cdc.bool {P : Program} {t : TypeId} (ht : P.underlying t = some .bool) (hc : P.cellsOf t = 1) : Cdc P t Bool where
  sz := 1
  K := fun _ a cs => cs = [.bool a]
  hsz := hc
  len := fun h => by rw [h]; rfl
  opens := fun h _ => by
    obtain ⟨n, h1, _⟩ := DataW.trod_bool ht h
    exact ⟨n, h1⟩
def Cdc.str {P : Program} {t : TypeId} (ht : P.underlying t = some .string) (hc : P.cellsOf t = 1) : Cdc P t ByteArray where
  sz := 1
  K := fun _ a cs => cs = [.string a] ∧ a.size ≤ 140737488351232
  hsz := hc
  len := fun h => by rw [h.1]; rfl
  opens := fun h hw => by
    obtain ⟨n, h1, h3, h2⟩ := DataW.trod_string ht h
    subst h3
    have := hw n.data.toList.length (by simp [DataW.weights])
    rw [Array.length_toList] at this
    exact ⟨n, h1, this⟩
def Cdc.slice {P : Program} {t te : TypeId} {α : Type} (ht : P.underlying t = some (.slice te)) (hc : P.cellsOf t = 1) (e : Cdc P te α) : Cdc P t (Option Addr × Nat × List α) where
  sz := 1
  K := fun w a cs => cs = [.slice a.1 a.2.2.length a.2.1] ∧ a.2.2.length ≤ a.2.1 ∧ ReadsRow (e.K w) e.sz w a.1 a.2.2.length a.2.2
  hsz := hc
  len := fun h => by rw [h.1]; rfl
  opens := fun {H enc w base spare held fuel cs x} h hw => by
    rcases DataW.trod_slice ht h with ⟨rfl, _⟩ | ⟨a, len, cap, elems, rest, n, _, rfl, hx, hb, hl, hm, hlen, hel, _, _⟩
    · exact ⟨(none, 0, []), rfl, Nat.le_refl _, rfl, Nat.zero_le _, fun h => by cases h⟩
    · subst hx
      have hwe : ∀ n ∈ DataW.weightsAll P te (elems.map (·.1)), n ≤ reachBytes := fun n hn => hw n (by simp only [DataW.weights, ht, List.mem_cons, List.mem_append]; exact .inr (.inl hn))
      have each : ∀ i, i < len → ∃ y, ∃ c, c.length = e.sz ∧ e.K w y c ∧ ∀ j u, c[j]? = some u → w.cell? (a.add (i * e.sz + j)) = some u := by
        intro i hi
        have h1 := hel i hi
        have hi' : i < elems.length := by omega
        rw [List.getElem?_eq_getElem hi', Option.bind_eq_some_iff] at h1
        obtain ⟨c, hcs, hy⟩ := h1
        obtain ⟨_, hcl, hat⟩ := World.cells?_some hcs
        obtain ⟨y, hK⟩ := e.opens hy (Light.all hwe i (by rw [List.getElem?_map, List.getElem?_eq_getElem hi']; rfl))
        refine ⟨y, c, e.len hK, hK, fun j u hu => ?_⟩
        have hj : j < c.length := (List.getElem?_eq_some_iff.1 hu).1
        rw [← Deep.add_add, ← e.hsz, hat j (by omega), hu]
      have big : ∀ m, m ≤ len → ∃ l : List α, l.length = m ∧ ∀ i p, l[i]? = some p → ∃ c, c.length = e.sz ∧ e.K w p c ∧ ∀ j u, c[j]? = some u → w.cell? (a.add (i * e.sz + j)) = some u := by
        intro m
        induction m with
        | zero => intro _; exact ⟨[], rfl, fun i p h => by simp at h⟩
        | succ m ih =>
          intro hm2
          obtain ⟨l, h1, h2⟩ := ih (by omega)
          obtain ⟨y, hy⟩ := each m (by omega)
          refine ⟨l ++ [y], by simp [h1], fun i p hp => ?_⟩
          rcases Nat.lt_or_ge i l.length with hi | hi
          · rw [List.getElem?_append_left hi] at hp
            exact h2 i p hp
          · have hi2 : i = m := by
              have := (List.getElem?_eq_some_iff.1 hp).1
              rw [List.length_append, List.length_singleton] at this
              omega
            subst hi2
            rw [List.getElem?_append_right (by omega)] at hp
            have : y = p := by simpa [h1] using hp
            subst this
            exact hy
      obtain ⟨l, h1, h2⟩ := big len (Nat.le_refl _)
      subst h1
      exact ⟨(some a, cap, l), rfl, hl, rfl, by unfold maxLen at hm; show l.length ≤ _; omega, fun _ => ⟨a, rfl, h2⟩⟩
/-- The fields of a struct, from an offset on. -/
structure Fl (P : Program) (fs : List Field) (off : Nat) (α : Type) where
  sz : Nat
  K : World → α → List Value → Prop
  len : ∀ {w a cs}, K w a cs → cs.length = sz
  opens : ∀ {H : Type} {enc : TypeId × Value → H} {w : World} {base : Nat} {spare : Nat → Bool} {held : Bool} {n : Nat} {cs : List Value} {xs : List (DataW H × List MemPlace)}, xs.length = fs.length → cs.length = off + sz → (∀ n ∈ DataW.weightsEach P (fs.map (·.type)) (xs.map (·.1)), n ≤ reachBytes) →
    (∀ (i : Nat) (f : Field), fs[i]? = some f → DataW.trod enc P w base spare held n f.type ((cs.drop f.offset).take (P.cellsOf f.type)) = xs[i]?) → ∃ a, K w a (cs.drop off)
def Fl.nil {P : Program} {off : Nat} : Fl P [] off Unit where
  sz := 0
  K := fun _ _ cs => cs = []
  len := fun h => by rw [h]; rfl
  opens := fun _ h _ _ => ⟨(), by rw [List.drop_eq_nil_iff]; omega⟩
def Fl.cons {P : Program} {f : Field} {fs : List Field} {off : Nat} {α β : Type} (c : Cdc P f.type α) (ho : f.offset = off) (r : Fl P fs (off + c.sz) β) : Fl P (f :: fs) off (α × β) where
  sz := c.sz + r.sz
  K := fun w a cs => ∃ c0 c1, cs = c0 ++ c1 ∧ c.K w a.1 c0 ∧ r.K w a.2 c1
  len := fun ⟨c0, c1, h, h0, h1⟩ => by rw [h, List.length_append, c.len h0, r.len h1]
  opens := fun {H enc w base spare held n cs xs} hx hl hw h => by
    match xs, hx with
    | x :: xs, hx =>
      simp only [List.map_cons, DataW.weightsEach, List.mem_append] at hw
      have h0 := h 0 f rfl
      rw [List.getElem?_cons_zero] at h0
      obtain ⟨a, ha⟩ := c.opens h0 (fun n hn => hw n (.inl hn))
      obtain ⟨b, hb⟩ := r.opens (cs := cs) (xs := xs) (by simpa using hx) (by omega) (fun n hn => hw n (.inr hn)) (fun i g hg => by simpa using h (i + 1) g (by simpa using hg))
      refine ⟨(a, b), _, _, ?_, ha, hb⟩
      rw [c.hsz, ho, ← List.drop_drop, List.take_append_drop]
def Cdc.struct {P : Program} {t : TypeId} {α : Type} {fs : Array Field} (ht : P.underlying t = some (.struct fs)) (r : Fl P fs.toList 0 α) (hc : P.cellsOf t = r.sz) : Cdc P t α where
  sz := r.sz
  K := r.K
  hsz := hc
  len := r.len
  opens := fun {H enc w base spare held fuel cs x} h hw => by
    obtain ⟨xs, n, _, hx, hl, hxl, hf⟩ := DataW.trod_struct ht h
    subst hx
    obtain ⟨a, ha⟩ := r.opens (xs := xs) (by simpa using hxl) (by omega) (fun n hn => hw n (by simp only [DataW.weights, ht]; exact hn)) (fun i f hi => hf i f (by simpa using hi))
    exact ⟨a, by simpa using ha⟩
/-- An array, as a list of its length. -/
def Cdc.array {P : Program} {t te : TypeId} {α : Type} {n : Nat} (ht : P.underlying t = some (.array n te)) (e : Cdc P te α) (h1 : e.sz = 1) (hc : P.cellsOf t = n) : Cdc P t (List α) where
  sz := n
  K := fun w a cs => cs.length = n ∧ a.length = n ∧ ∀ (i : Nat) (x : α), a[i]? = some x → ∃ u, cs[i]? = some u ∧ e.K w x [u]
  hsz := hc
  len := fun h => h.1
  opens := fun {H enc w base spare held fuel cs x} h hw => by
    obtain ⟨xs, m, _, hx, hl, hxl, hf⟩ := DataW.trod_array ht h
    subst hx
    have hwe : ∀ n ∈ DataW.weightsAll P te (xs.map (·.1)), n ≤ reachBytes := fun n hn => hw n (by simp only [DataW.weights, ht]; exact hn)
    rw [hc] at hl
    have each : ∀ i, i < n → ∃ x u, cs[i]? = some u ∧ e.K w x [u] := by
      intro i hi
      have h2 := hf i hi
      rw [List.getElem?_eq_getElem (show i < xs.length by omega), e.hsz, h1, Nat.mul_one, List.drop_eq_getElem_cons (show i < cs.length by omega)] at h2
      rw [List.take_succ_cons, List.take_zero] at h2
      obtain ⟨a, ha⟩ := e.opens h2 (Light.all hwe i (by rw [List.getElem?_map, List.getElem?_eq_getElem (show i < xs.length by omega)]; rfl))
      exact ⟨a, _, List.getElem?_eq_getElem (by omega), ha⟩
    have big : ∀ m, m ≤ n → ∃ l : List α, l.length = m ∧ ∀ (i : Nat) (x : α), l[i]? = some x → ∃ u, cs[i]? = some u ∧ e.K w x [u] := by
      intro m
      induction m with
      | zero => intro _; exact ⟨[], rfl, fun i p h => by simp at h⟩
      | succ m ih =>
        intro hm2
        obtain ⟨l, h3, h4⟩ := ih (by omega)
        obtain ⟨y, hy⟩ := each m (by omega)
        refine ⟨l ++ [y], by simp [h3], fun i p hp => ?_⟩
        rcases Nat.lt_or_ge i l.length with hi | hi
        · rw [List.getElem?_append_left hi] at hp
          exact h4 i p hp
        · have hi2 : i = m := by
            have := (List.getElem?_eq_some_iff.1 hp).1
            rw [List.length_append, List.length_singleton] at this
            omega
          subst hi2
          rw [List.getElem?_append_right (by omega)] at hp
          have : y = p := by simpa [h3] using hp
          subst this
          exact hy
    obtain ⟨l, h3, h4⟩ := big n (Nat.le_refl _)
    exact ⟨l, hl, h3, h4⟩
/-- The same cells, read as another kind of thing. -/
def Cdc.map {P : Program} {t : TypeId} {α β : Type} (e : Cdc P t α) (f : α → β) : Cdc P t β where
  sz := e.sz
  K := fun w b cs => ∃ a, b = f a ∧ e.K w a cs
  hsz := e.hsz
  len := fun ⟨_, _, h⟩ => e.len h
  opens := fun h hw => by
    obtain ⟨a, ha⟩ := e.opens h hw
    exact ⟨f a, a, rfl, ha⟩
theorem row_len {α : Type} {R : α → List Value → Prop} {size : Nat} {w : World} {A : Option Addr} {n : Nat} {l : List α} (h : ReadsRow R size w A n l) : n ≤ 9223372036854775807 := h.2.1
theorem row_C {α : Type} {R R' : α → List Value → Prop} {size : Nat} {w : World} {A : Option Addr} {n : Nat} {l : List α} (h : ReadsRow R size w A n l) (hR : ∀ p c, R p c → R' p c) : ReadsRow R' size w A n l :=
  h.imp_ (Below.refl _ _) hR
/-- A struct by value. -/
theorem open_struct {P : Program} {t : TypeId} {α : Type} {fs : Array Field} (c : Cdc P t α) (ht : P.underlying t = some (.struct fs)) {H : Type} {enc : TypeId × Value → H} {w : World} {base : Nat} {spare : Nat → Bool} {held : Bool} {r : Reach} {b0 : Nat} {v : Value} {d : DataW H} {p : List MemPlace}
    (hv : Value.okWide P w r b0 t v) (h : DataW.Trod enc P w base spare held t v d p) (hw : Light P t d) : ∃ (a : α) (cs : List Value), v = .agg ⟨cs⟩ ∧ c.K w a cs := by
  obtain ⟨cs, rfl, hsz⟩ := okWide_struct ht hv
  obtain ⟨fuel, hf⟩ := h
  obtain ⟨a, ha⟩ := c.opens hf hw
  exact ⟨a, cs.toList, rfl, ha⟩
theorem lt_of_trod {P : Program} {t : TypeId} {H : Type} {enc : TypeId × Value → H} {w : World} {base : Nat} {spare : Nat → Bool} {held : Bool} {v : Value} {d : DataW H} {p : List MemPlace}
    (h : DataW.Trod enc P w base spare held t v d p) : ∀ x ∈ p, x.block < w.heap.size := by
  obtain ⟨m, hm⟩ := h
  exact DataW.trod_lt m _ _ _ hm
end Go.Proofs.Ythoddglnfdmdeaa.Op
set_option linter.unusedVariables false
set_option linter.unusedSimpArgs false
namespace Go.Proofs.Ythoddglnfdmdeaa.Pl
set_option linter.unusedSimpArgs false
open Go.RowKit Go.Proofs.Ythoddglnfdmdeaa.P Go.Proofs.YthoddglnfdmdeaaW.PrintWords Go.Proofs.YthoddglnfdmdeaaW.PrintLast Go.Proofs.YthoddglnfdmdeaaW.PrintMore
def okSum (e : Int) : Prop := 0 ≤ e ∧ e / 65536 < 65521 ∧ e % 65536 < 65521
instance (e : Int) : Decidable (okSum e) := by unfold okSum; infer_instance
def mayP (a b c d e : Int) : Prop := (1 ≤ a ∧ a ≤ 2) ∧ (0 ≤ b ∧ b ≤ 1073741824) ∧ (0 ≤ c ∧ c ≤ 65535) ∧ (0 ≤ d ∧ d ≤ 4096) ∧ okSum e
instance (a b c d e : Int) : Decidable (mayP a b c d e) := by unfold mayP; infer_instance
/-- A number of 64 bits. -/
def I64 (e : Int) : Prop := -9223372036854775808 ≤ e ∧ e ≤ 9223372036854775807
theorem in_spec (a b c : Int) : rec_in.f a b c = some (decide (b ≤ a ∧ a ≤ c)) := by
  unfold rec_in.f
  by_cases h : a ≥ b
  · rw [if_pos h]; congr 1; exact decide_eq_decide.2 ⟨fun x => ⟨h, x⟩, fun x => x.2⟩
  · rw [if_neg h]; congr 1; symm; exact decide_eq_false (fun x => h x.1)
theorem rollNil (e : Int) : rollSpec e [] = if okSum e then e else 0 := by
  unfold rollSpec
  by_cases h : okSum e
  · rw [if_pos h]
    have h' : 0 ≤ e ∧ e / 65536 < 65521 ∧ e % 65536 < 65521 := h
    rw [if_pos h']; show e / 65536 * 65536 + e % 65536 = e; omega
  · rw [if_neg h]
    have h' : ¬ (0 ≤ e ∧ e / 65536 < 65521 ∧ e % 65536 < 65521) := h
    rw [if_neg h']
theorem may_spec (a b c d e : Int) (he : I64 e) (k : Nat) (hk : 0 < k) : rec_Head_may.f k a b c d e = some (decide (mayP a b c d e)) := by
  unfold rec_Head_may.f
  rw [in_spec, in_spec, in_spec, in_spec]
  simp only [Option.bind_some]
  unfold mayP
  by_cases h1 : 1 ≤ a ∧ a ≤ 2
  · rw [if_pos (decide_eq_true h1)]
    by_cases h2 : 0 ≤ b ∧ b ≤ 1073741824
    · rw [if_pos (decide_eq_true h2)]
      by_cases h3 : 0 ≤ c ∧ c ≤ 65535
      · rw [if_pos (decide_eq_true h3)]
        by_cases h4 : 0 ≤ d ∧ d ≤ 4096
        · rw [if_pos (decide_eq_true h4)]
          by_cases h5 : e = 0
          · rw [if_pos h5]; congr 1; symm; exact decide_eq_true ⟨h1, h2, h3, h4, by subst h5; decide⟩
          · rw [if_neg h5, roll_spec e ⟨#[]⟩ he.1 he.2 (by show (0 : Nat) ≤ _; omega) k hk, show bs (⟨#[]⟩ : ByteArray) = [] from rfl, rollNil]
            simp only [Option.bind_some]
            congr 1
            by_cases h6 : okSum e
            · rw [if_pos h6]; simp [h1, h2, h3, h4, h6]
            · rw [if_neg h6]
              have : ¬ (0 = e) := fun x => h5 x.symm
              simp [h6, this]
        · rw [if_neg (by simpa using h4)]; congr 1; symm; exact decide_eq_false (fun x => h4 x.2.2.2.1)
      · rw [if_neg (by simpa using h3)]; congr 1; symm; exact decide_eq_false (fun x => h3 x.2.2.1)
    · rw [if_neg (by simpa using h2)]; congr 1; symm; exact decide_eq_false (fun x => h2 x.2.1)
  · rw [if_neg (by simpa using h1)]; congr 1; symm; exact decide_eq_false (fun x => h1 x.1)
def fourL (n : Int) : List Int := [n / 16777216 % 256, n / 65536 % 256, n / 256 % 256, n % 256]
def headL (a b c d e : Int) : List Int := 72 :: a % 256 :: (fourL b ++ fourL c ++ fourL d ++ fourL e ++ List.replicate 14 0)
def headT (a b c d e : Int) : ByteArray := strOfNums (headL a b c d e)
theorem strOfNums_size (l : List Int) : (strOfNums l).size = l.length := by simp [strOfNums, ByteArray.size]
theorem bytes_spec (b c d e : Int) (k : Nat) (hk : 5 ≤ k) : rec_bytes.f k [b, c, d, e] = some (strOfNums (fourL b ++ fourL c ++ fourL d ++ fourL e)) := by
  obtain ⟨k, rfl⟩ : ∃ m, k = m + 5 := ⟨k - 5, by omega⟩
  have w1 : wrap64 (0 + 1) = 1 := w64 (by omega) (by omega)
  have w2 : wrap64 (1 + 1) = 2 := w64 (by omega) (by omega)
  have w3 : wrap64 (2 + 1) = 3 := w64 (by omega) (by omega)
  have w4 : wrap64 (3 + 1) = 4 := w64 (by omega) (by omega)
  unfold rec_bytes.f
  simp only [rec_bytes.l0, Option.bind_some, List.length_cons, List.length_nil, List.length_append, w1, w2, w3, w4, fourL]
  simp [rd]
theorem filled_spec (s : ByteArray) (h : s.size ≤ 32) : rec_filled.f s = some (s ++ zerosB (32 - s.size)) := by unfold rec_filled.f; rw [if_pos h]
theorem Text_spec (a b c d e : Int) (he : I64 e) (k : Nat) (hk : 5 ≤ k) : rec_Head_Text.f k a b c d e = some (if mayP a b c d e then (headT a b c d e, true) else (⟨#[]⟩, false)) := by
  unfold rec_Head_Text.f
  rw [may_spec a b c d e he k (by omega), bytes_spec b c d e k hk]
  simp only [Option.bind_some]
  by_cases h : mayP a b c d e
  · rw [if_pos (decide_eq_true h), if_pos h, if_pos (by rw [strOfNums_size]; simp), if_pos (by rw [ByteArray.size_append, strOfNums_size, strOfNums_size]; simp [fourL, ByteArray.size])]
    have hz : (((⟨#[72]⟩ : ByteArray) ++ strOfNums [a % 256]) ++ strOfNums (fourL b ++ fourL c ++ fourL d ++ fourL e)).size = 18 := by
      rw [ByteArray.size_append, ByteArray.size_append, strOfNums_size, strOfNums_size]; simp [fourL, ByteArray.size]
    rw [filled_spec _ (by rw [hz]; omega), hz]
    simp only [Option.bind_some]
    congr 2
  · rw [if_neg (by simpa using h), if_neg h]
def numAt (s : ByteArray) (i : Int) : Int := 16777216 * bt s i + 65536 * bt s (i + 1) + 256 * bt s (i + 2) + bt s (i + 3)
theorem numAt_range (s : ByteArray) (i : Int) : 0 ≤ numAt s i ∧ numAt s i ≤ 4294967295 := by
  have h0 := bt_range s i; have h1 := bt_range s (i + 1); have h2 := bt_range s (i + 2); have h3 := bt_range s (i + 3)
  unfold numAt; omega
theorem refNumber_spec (s : ByteArray) (i : Int) (h0 : 0 ≤ i) (h1 : i + 3 < s.size) (hs : s.size ≤ 140737488351232) : armadaref03_number.f s i = some (numAt s i) := by
  have b0 := bt_range s i; have b1 := bt_range s (i + 1); have b2 := bt_range s (i + 2); have b3 := bt_range s (i + 3)
  unfold armadaref03_number.f
  rw [w64 (x := i + 1) (by omega) (by omega), w64 (x := i + 2) (by omega) (by omega), w64 (x := i + 3) (by omega) (by omega),
    if_pos (by omega), if_pos (by omega), if_pos (by omega), if_pos (by omega), if_pos (by omega), if_pos (by omega), if_pos (by omega), if_pos (by omega),
    w64 (x := bt s i) (by omega) (by omega), w64 (x := bt s (i + 1)) (by omega) (by omega), w64 (x := bt s (i + 2)) (by omega) (by omega), w64 (x := bt s (i + 3)) (by omega) (by omega),
    w64 (x := 16777216 * bt s i) (by omega) (by omega), w64 (x := 65536 * bt s (i + 1)) (by omega) (by omega), w64 (x := 256 * bt s (i + 2)) (by omega) (by omega),
    w64 (x := 16777216 * bt s i + 65536 * bt s (i + 1)) (by omega) (by omega), w64 (x := 16777216 * bt s i + 65536 * bt s (i + 1) + 256 * bt s (i + 2)) (by omega) (by omega), w64 (by omega) (by omega)]
  rfl
theorem or_byte (x y : Int) (h0 : 0 ≤ x) (h1 : x < 281474976710656) (h2 : 0 ≤ y) (h3 : y ≤ 255) : Go.bits .or .i64 (wrap64 (x * 256)) (wrap64 y) = x * 256 + y := by
  rw [w64 (x := x * 256) (by omega) (by omega), w64 (x := y) (by omega) (by omega)]
  exact bits_join .i64 63 (by decide) (fun n h0 h1 => by rw [IntKind.wrap_i64]; omega) 8 (x * 256) y (by omega) (by omega) (by omega) h2 (by omega) (by omega)
theorem number_spec (s : ByteArray) (i : Int) (h0 : 0 ≤ i) (h1 : 2 + 4 * i + 3 < s.size) (hs : s.size ≤ 140737488351232) (k : Nat) (hk : 5 ≤ k) : rec_number.f k s i = some (numAt s (2 + 4 * i)) := by
  obtain ⟨k, rfl⟩ : ∃ m, k = m + 5 := ⟨k - 5, by omega⟩
  have b0 := bt_range s (2 + 4 * i); have b1 := bt_range s (2 + 4 * i + 1); have b2 := bt_range s (2 + 4 * i + 2); have b3 := bt_range s (2 + 4 * i + 3)
  have e0 : wrap64 (wrap64 (2 + wrap64 (4 * i)) + 0) = 2 + 4 * i := by rw [w64 (x := 4 * i) (by omega) (by omega), w64 (x := 2 + 4 * i) (by omega) (by omega), w64 (by omega) (by omega)]; omega
  have e1 : wrap64 (wrap64 (2 + wrap64 (4 * i)) + 1) = 2 + 4 * i + 1 := by rw [w64 (x := 4 * i) (by omega) (by omega), w64 (x := 2 + 4 * i) (by omega) (by omega), w64 (by omega) (by omega)]
  have e2 : wrap64 (wrap64 (2 + wrap64 (4 * i)) + 2) = 2 + 4 * i + 2 := by rw [w64 (x := 4 * i) (by omega) (by omega), w64 (x := 2 + 4 * i) (by omega) (by omega), w64 (by omega) (by omega)]
  have e3 : wrap64 (wrap64 (2 + wrap64 (4 * i)) + 3) = 2 + 4 * i + 3 := by rw [w64 (x := 4 * i) (by omega) (by omega), w64 (x := 2 + 4 * i) (by omega) (by omega), w64 (by omega) (by omega)]
  have w1 : wrap64 (0 + 1) = 1 := w64 (by omega) (by omega)
  have w2 : wrap64 (1 + 1) = 2 := w64 (by omega) (by omega)
  have w3 : wrap64 (2 + 1) = 3 := w64 (by omega) (by omega)
  have w4 : wrap64 (3 + 1) = 4 := w64 (by omega) (by omega)
  unfold rec_number.f
  simp only [rec_number.l0, e0, e1, e2, e3, w1, w2, w3, w4]
  rw [if_pos (by omega), if_pos (by omega), if_pos (by omega), if_pos (by omega), if_pos (by omega), if_pos (by omega), if_pos (by omega), if_pos (by omega), if_pos (by omega), if_pos (by omega), if_pos (by omega), if_pos (by omega), if_neg (by omega),
    or_byte 0 _ (by omega) (by omega) b0.1 b0.2, or_byte _ _ (by omega) (by omega) b1.1 b1.2, or_byte _ _ (by omega) (by omega) b2.1 b2.2, or_byte _ _ (by omega) (by omega) b3.1 b3.2]
  congr 1
  unfold numAt
  omega
/-- Is a text a head's? -/
def isHead (s : ByteArray) : Prop := s.size = 32 ∧ mayP (bt s 1) (numAt s 2) (numAt s 6) (numAt s 10) (numAt s 14) ∧ (headT (bt s 1) (numAt s 2) (numAt s 6) (numAt s 10) (numAt s 14)).toList = s.toList
instance (s : ByteArray) : Decidable (isHead s) := by unfold isHead; infer_instance
def readP (s : ByteArray) : Int × Int × Int × Int × Int × Bool := if isHead s then (bt s 1, numAt s 2, numAt s 6, numAt s 10, numAt s 14, true) else (0, 0, 0, 0, 0, false)
theorem wrap_bt (s : ByteArray) (i : Int) : wrap64 (bt s i) = bt s i := by have := bt_range s i; exact w64 (by omega) (by omega)
theorem I64_num (s : ByteArray) (i : Int) : I64 (numAt s i) := by have := numAt_range s i; unfold I64; omega
theorem Read_spec (s : ByteArray) (k : Nat) (hk : 5 ≤ k) : rec_Read.f k s = some (readP s) := by
  unfold rec_Read.f readP
  by_cases h : (s.size : Int) = 32
  · have hs : s.size = 32 := by omega
    rw [if_pos h, if_pos (by omega), number_spec s 0 (by omega) (by omega) (by omega) k hk, number_spec s 1 (by omega) (by omega) (by omega) k hk, number_spec s 2 (by omega) (by omega) (by omega) k hk, number_spec s 3 (by omega) (by omega) (by omega) k hk]
    simp only [Option.bind_some, wrap_bt]
    show (rec_Head_Text.f k (bt s 1) (numAt s 2) (numAt s 6) (numAt s 10) (numAt s 14)).bind _ = _
    rw [Text_spec _ _ _ _ _ (I64_num s 14) k hk]
    simp only [Option.bind_some]
    by_cases hm : mayP (bt s 1) (numAt s 2) (numAt s 6) (numAt s 10) (numAt s 14)
    · rw [if_pos hm, if_pos rfl]
      by_cases he : (headT (bt s 1) (numAt s 2) (numAt s 6) (numAt s 10) (numAt s 14)).toList = s.toList
      · rw [if_pos he, if_pos ⟨hs, hm, he⟩]; rfl
      · rw [if_neg he, if_neg (fun x => he x.2.2)]
    · rw [if_neg hm, if_neg (by simp), if_neg (fun x => hm x.2.1)]
  · rw [if_neg h, if_neg (fun x => h (by rw [x.1]; rfl))]
theorem num_of_range (l : List Int) : I64 (num (ofP l)) := by have := num_range (ofP_in l); unfold I64; omega
def makeP (a b c : Int) (s : ByteArray) : Int × Int × Int × Int × Int × Bool := if mayP a b c (s.size : Int) (num (ofP (bs s))) then (a, b, c, (s.size : Int), num (ofP (bs s)), true) else (0, 0, 0, 0, 0, false)
theorem Make_spec (a b c : Int) (s : ByteArray) (hs : s.size ≤ 140737488351232) (k : Nat) (hk : s.size < k) : rec_Make.f k a b c s = some (makeP a b c s) := by
  unfold rec_Make.f makeP
  rw [of_spec s hs k hk]
  simp only [Option.bind_some]
  rw [may_spec a b c _ _ (num_of_range _) k (by omega)]
  simp only [Option.bind_some]
  by_cases hm : mayP a b c (s.size : Int) (num (ofP (bs s)))
  · rw [if_pos (decide_eq_true hm), if_pos hm]
  · rw [if_neg (by simpa using hm), if_neg hm]
end Go.Proofs.Ythoddglnfdmdeaa.Pl
set_option linter.unusedVariables false
set_option linter.unusedSimpArgs false
namespace Go.Proofs.Ythoddglnfdmdeaa.P
open Go.RowKit Go.Proofs.YthoddglnfdmdeaaW.PrintWords Go.Proofs.YthoddglnfdmdeaaW.PrintLast Go.Proofs.YthoddglnfdmdeaaW.PrintMore
theorem drop_nil_len {α : Type} {l : List α} {i : Nat} (h : l.drop i = []) (hi : i ≤ l.length) : i = l.length := by have := List.drop_eq_nil_iff.1 h; omega
def smallB (s : List ByteArray) (c : List S29) : Bool := s.all (fun x => decide (x.size ≤ 100) && decide (s.length ≤ 600)) && c.all (fun x => decide (x.f1.size ≤ 100) && decide (c.length ≤ 200))
theorem small_l1 (s : List ByteArray) (c : List S29) (hc : c.length ≤ 9223372036854775807) : ∀ (r : List S29) (i k : Nat), c.drop i = r → i ≤ c.length → r.length + 2 ≤ k →
    armadaref01_Small.l1 k (i : Int) s c = some (r.all (fun x => decide (x.f1.size ≤ 100) && decide (c.length ≤ 200)))
  | [], i, k, hr, hi, hk => by
    obtain ⟨k, rfl⟩ : ∃ k', k = k' + 1 := ⟨k - 1, by omega⟩
    have := drop_nil_len hr hi
    subst this
    rw [armadaref01_Small.l1, if_neg (by omega)]; rfl
  | x :: r, i, k, hr, hi, hk => by
    obtain ⟨k, rfl⟩ : ∃ k', k = k' + 1 := ⟨k - 1, by omega⟩
    obtain ⟨hx, hlt, hd⟩ := rdW_drop hr
    have hk' : r.length + 2 ≤ k := by rw [List.length_cons] at hk; omega
    rw [armadaref01_Small.l1, if_pos (by omega), if_pos (by omega), hx, wsucc i (by omega), small_l1 s c hc r (i + 1) k hd (by omega) hk', List.all_cons]
    by_cases h1 : x.f1.size ≤ 100
    · rw [if_neg (by omega), decide_eq_true h1]
      by_cases h2 : c.length ≤ 200
      · rw [if_neg (by omega), decide_eq_true h2]; simp
      · rw [if_pos (by omega), decide_eq_false h2]; simp
    · rw [if_pos (by omega), decide_eq_false h1]; simp
theorem small_l0 (s : List ByteArray) (c : List S29) (hs : s.length ≤ 9223372036854775807) (hc : c.length ≤ 9223372036854775807) : ∀ (r : List ByteArray) (i k : Nat), s.drop i = r → i ≤ s.length → r.length + c.length + 4 ≤ k →
    armadaref01_Small.l0 k (i : Int) s c = some (r.all (fun x => decide (x.size ≤ 100) && decide (s.length ≤ 600)) && c.all (fun x => decide (x.f1.size ≤ 100) && decide (c.length ≤ 200)))
  | [], i, k, hr, hi, hk => by
    obtain ⟨k, rfl⟩ : ∃ k', k = k' + 1 := ⟨k - 1, by omega⟩
    have := drop_nil_len hr hi
    subst this
    have h0 := small_l1 s c hc c 0 k rfl (Nat.zero_le _) (by simp at hk; omega)
    rw [Int.natCast_zero] at h0
    rw [armadaref01_Small.l0, if_neg (by omega), h0]; rfl
  | x :: r, i, k, hr, hi, hk => by
    obtain ⟨k, rfl⟩ : ∃ k', k = k' + 1 := ⟨k - 1, by omega⟩
    obtain ⟨hx, hlt, hd⟩ := rdOf_drop hr
    have hk' : r.length + c.length + 4 ≤ k := by rw [List.length_cons] at hk; omega
    rw [armadaref01_Small.l0, if_pos (by omega), if_pos (by omega), hx, wsucc i (by omega), small_l0 s c hs hc r (i + 1) k hd (by omega) hk', List.all_cons]
    by_cases h1 : x.size ≤ 100
    · rw [if_neg (by omega), decide_eq_true h1]
      by_cases h2 : s.length ≤ 600
      · rw [if_neg (by omega), decide_eq_true h2]; simp
      · rw [if_pos (by omega), decide_eq_false h2]; simp
    · rw [if_pos (by omega), decide_eq_false h1]; simp
theorem small_f (s : List ByteArray) (c : List S29) (hs : s.length ≤ 9223372036854775807) (hc : c.length ≤ 9223372036854775807) (k : Nat) (hk : s.length + c.length + 10 ≤ k) : armadaref01_Small.f k s c = some (smallB s c) := by
  have h0 := small_l0 s c hs hc s 0 k rfl (Nat.zero_le _) (by omega)
  rw [Int.natCast_zero] at h0
  exact h0
theorem smallB_lim {s : List ByteArray} {c : List S29} (h : smallB s c = true) : s.length ≤ 600 ∧ c.length ≤ 200 ∧ (∀ x ∈ s, x.size ≤ 100) ∧ ∀ x ∈ c, x.f1.size ≤ 100 := by
  unfold smallB at h
  simp only [Bool.and_eq_true, List.all_eq_true, decide_eq_true_eq] at h
  refine ⟨?_, ?_, fun x hx => (h.1 x hx).1, fun x hx => (h.2 x hx).1⟩
  · cases s with
    | nil => simp
    | cons x s => exact (h.1 x List.mem_cons_self).2
  · cases c with
    | nil => simp
    | cons x c => exact (h.2 x List.mem_cons_self).2
end Go.Proofs.Ythoddglnfdmdeaa.P
set_option linter.unusedVariables false
set_option linter.unusedSimpArgs false
namespace Go.Proofs.Ythoddglnfdmdeaa.Pl
set_option linter.unusedSimpArgs false
open Go.RowKit Go.Proofs.Ythoddglnfdmdeaa.P Go.Proofs.YthoddglnfdmdeaaW.PrintWords Go.Proofs.YthoddglnfdmdeaaW.PrintLast Go.Proofs.YthoddglnfdmdeaaW.PrintMore
def D1 : ByteArray := ⟨#[68]⟩
theorem D1_size : D1.size = 1 := rfl
def fillB (s : ByteArray) : ByteArray := s ++ zerosB (32 - s.size)
/-- The sector of a place of a payload. -/
def chunk (s : ByteArray) (i : Nat) : ByteArray := fillB (D1 ++ s.extract (31 * i) (31 * i + 31))
theorem part_size (s : ByteArray) (i : Nat) : (s.extract (31 * i) (31 * i + 31)).size = min 31 (s.size - 31 * i) := by rw [ByteArray.size_extract]; omega
def cutN (s : ByteArray) (n : Nat) : List ByteArray := (List.range n).map (chunk s)
theorem cutN_succ (s : ByteArray) (n : Nat) : cutN s (n + 1) = cutN s n ++ [chunk s n] := by unfold cutN; rw [List.range_succ, List.map_append]; rfl
theorem cutN_length (s : ByteArray) (n : Nat) : (cutN s n).length = n := by simp [cutN]
def cntN (n : Nat) : Nat := (n + 30) / 31
def cutP (s : ByteArray) : List ByteArray := if s.size ≤ 4096 then cutN s (cntN s.size) else []
theorem toList_nil (s : ByteArray) : s.toList = [] ↔ s.size = 0 := by
  rw [ByteArray.toList_eq]
  constructor
  · intro h
    have := congrArg List.length h
    simpa using this
  · intro h
    have : s.data.toList.length = 0 := by simpa using h
    exact List.eq_nil_of_length_eq_zero this
theorem mn_min (a b : Nat) : mn (a : Int) (b : Int) = ((min a b : Nat) : Int) := by unfold mn; split <;> omega
theorem ext_clamp (s : ByteArray) (a b : Nat) : s.extract a (min b s.size) = s.extract a b := by
  have h : s = s.extract 0 s.size := ByteArray.extract_zero_size.symm
  conv => rhs; rw [h, ByteArray.extract_extract]
  rw [Nat.zero_add, Nat.zero_add]
theorem cut_l0 (s : ByteArray) (hs : s.size ≤ 4096) (d : Nat) : ∀ (k i : Nat), cntN s.size - i = d → i ≤ cntN s.size → d < k → rec_Cut.l0 k (s.extract (31 * i) s.size) (cutN s i) = some (cutN s (cntN s.size)) := by
  induction d with
  | zero =>
    intro k i hd hi hk
    obtain ⟨k, rfl⟩ : ∃ m, k = m + 1 := ⟨k - 1, by omega⟩
    obtain rfl : i = cntN s.size := by omega
    rw [rec_Cut.l0, if_pos ((toList_nil _).2 (by rw [ByteArray.size_extract]; unfold cntN; omega))]
  | succ d ih =>
    intro k i hd hi hk
    obtain ⟨k, rfl⟩ : ∃ m, k = m + 1 := ⟨k - 1, by omega⟩
    have hlt : 31 * i < s.size := by unfold cntN at *; omega
    have hz : (s.extract (31 * i) s.size).size = s.size - 31 * i := by rw [ByteArray.size_extract]; omega
    have hm : mn 31 ((s.extract (31 * i) s.size).size : Int) = ((min 31 (s.size - 31 * i) : Nat) : Int) := by rw [hz]; exact mn_min 31 _
    have e1 : (s.extract (31 * i) s.size).extract 0 (min 31 (s.size - 31 * i)) = s.extract (31 * i) (31 * i + 31) := by
      rw [ByteArray.extract_extract, Nat.add_zero, ← ext_clamp s (31 * i) (31 * i + 31)]
      congr 1
      omega
    have e2 : (s.extract (31 * i) s.size).extract (min 31 (s.size - 31 * i)) (s.size - 31 * i) = s.extract (31 * (i + 1)) s.size := by
      rw [ByteArray.extract_extract]
      by_cases h : 31 ≤ s.size - 31 * i
      · congr 1 <;> omega
      · have a : (s.extract (31 * (i + 1)) s.size).size = 0 := by rw [ByteArray.size_extract]; omega
        have b : (s.extract (31 * i + min 31 (s.size - 31 * i)) (min (31 * i + (s.size - 31 * i)) s.size)).size = 0 := by rw [ByteArray.size_extract]; omega
        rw [ByteArray.size_eq_zero_iff.1 a, ByteArray.size_eq_zero_iff.1 b]
    rw [rec_Cut.l0, if_neg (fun h => by have := (toList_nil _).1 h; omega), hm, hz, if_pos (by omega), if_pos (by omega), Int.toNat_natCast, e1, e2, if_pos (by rw [part_size]; omega),
      filled_spec _ (by show (D1 ++ _).size ≤ 32; rw [ByteArray.size_append, D1_size, part_size]; omega)]
    rw [Option.bind_some, if_pos (by rw [cutN_length]; unfold cntN at *; omega)]
    rw [← ih k (i + 1) (by omega) (by omega) (by omega), cutN_succ]
    rfl
theorem Cut_spec (s : ByteArray) (k : Nat) (hk : 140 ≤ k) : rec_Cut.f k s = some (cutP s) := by
  unfold rec_Cut.f cutP
  by_cases h : (s.size : Int) > 4096
  · rw [if_pos h, if_neg (by omega)]
  · rw [if_neg h, if_pos (by omega)]
    have := cut_l0 s (by omega) (cntN s.size) k 0 (by omega) (by omega) (by unfold cntN; omega)
    rw [Nat.mul_zero, ByteArray.extract_zero_size] at this
    exact this
def cntP (n : Int) : Int := if 0 ≤ n ∧ n ≤ 4096 then (n + 30) / 31 else -1
theorem Count_spec (n : Int) : rec_Count.f n = some (cntP n) := by
  unfold rec_Count.f cntP
  rw [in_spec]
  simp only [Option.bind_some]
  by_cases h : 0 ≤ n ∧ n ≤ 4096
  · rw [if_pos (decide_eq_true h), if_pos h, w64 (x := n + 31) (by omega) (by omega), w64 (x := n + 31 - 1) (by omega) (by omega), tdiv_pos (by omega), w64 (by omega) (by omega)]
    congr 1
    omega
  · rw [if_neg (by simpa using h), if_neg h]
theorem toList_inj {a b : ByteArray} (h : a.toList = b.toList) : a = b := by
  rw [ByteArray.toList_eq, ByteArray.toList_eq] at h
  exact ByteArray.ext (Array.toList_inj.1 h)
theorem rdOf_get (l : List ByteArray) (i : Nat) (h : i < l.length) : rdOf ByteArray.empty l (i : Int) = l[i] := by
  unfold rdOf
  rw [Int.toNat_natCast, List.getD_eq_getElem?_getD, List.getElem?_eq_getElem h]
  rfl
theorem eq_l0 (a b : List ByteArray) (hl : a.length = b.length) (hm : a.length ≤ 9223372036854775807) (d : Nat) : ∀ (k i : Nat), a.length - i = d → i ≤ a.length → d < k →
    slices_Equal_string_string.l0 k a b (a.length : Int) (i : Int) = some (decide (a.drop i = b.drop i)) := by
  induction d with
  | zero =>
    intro k i hd hi hk
    obtain ⟨k, rfl⟩ : ∃ m, k = m + 1 := ⟨k - 1, by omega⟩
    rw [slices_Equal_string_string.l0, if_neg (by omega), List.drop_of_length_le (by omega), List.drop_of_length_le (by omega)]
    rfl
  | succ d ih =>
    intro k i hd hi hk
    obtain ⟨k, rfl⟩ : ∃ m, k = m + 1 := ⟨k - 1, by omega⟩
    have ha : i < a.length := by omega
    have hb : i < b.length := by omega
    rw [slices_Equal_string_string.l0, if_pos (by omega), if_pos (by omega), if_pos (by omega), if_pos (by omega), rdOf_get a i ha, rdOf_get b i hb, List.drop_eq_getElem_cons ha, List.drop_eq_getElem_cons hb]
    by_cases h : a[i] = b[i]
    · rw [if_pos (by rw [h]), w64 (by omega) (by omega)]
      refine (ih k (i + 1) (by omega) (by omega) (by omega)).trans ?_
      congr 1
      rw [decide_eq_decide]
      simp only [List.cons.injEq, h, true_and]
    · rw [if_neg (fun h2 => h (toList_inj h2))]
      congr 1
      symm
      apply decide_eq_false
      simp only [List.cons.injEq, h, false_and, not_false_eq_true]
theorem Equal_spec (a b : List ByteArray) (hm : a.length ≤ 9223372036854775807) (k : Nat) (hk : a.length < k) : slices_Equal_string_string.f k a b = some (decide (a = b)) := by
  unfold slices_Equal_string_string.f
  by_cases h : a.length = b.length
  · rw [if_pos (by omega)]
    have := eq_l0 a b h hm a.length k 0 (by omega) (by omega) hk
    simpa using this
  · rw [if_neg (by omega)]
    congr 1
    symm
    exact decide_eq_false (fun e => h (by rw [e]))
theorem same_l0 (a b : List ByteArray) (hl : a.length = b.length) (hm : a.length ≤ 9223372036854775807) (d : Nat) : ∀ (k i : Nat), a.length - i = d → i ≤ a.length → d < k →
    armadaref03_Same.l0 k a b (i : Int) = some (decide (a.drop i = b.drop i)) := by
  induction d with
  | zero =>
    intro k i hd hi hk
    obtain ⟨k, rfl⟩ : ∃ m, k = m + 1 := ⟨k - 1, by omega⟩
    rw [armadaref03_Same.l0, if_neg (by omega), List.drop_of_length_le (by omega), List.drop_of_length_le (by omega)]
    rfl
  | succ d ih =>
    intro k i hd hi hk
    obtain ⟨k, rfl⟩ : ∃ m, k = m + 1 := ⟨k - 1, by omega⟩
    have ha : i < a.length := by omega
    have hb : i < b.length := by omega
    rw [armadaref03_Same.l0, if_pos (by omega), if_pos (by omega), if_pos (by omega), rdOf_get a i ha, rdOf_get b i hb, List.drop_eq_getElem_cons ha, List.drop_eq_getElem_cons hb]
    by_cases h : a[i] = b[i]
    · rw [if_pos (by rw [h]), w64 (by omega) (by omega)]
      refine (ih k (i + 1) (by omega) (by omega) (by omega)).trans ?_
      congr 1
      rw [decide_eq_decide]
      simp only [List.cons.injEq, h, true_and]
    · rw [if_neg (fun h2 => h (toList_inj h2))]
      congr 1
      symm
      apply decide_eq_false
      simp only [List.cons.injEq, h, false_and, not_false_eq_true]
theorem Same_spec (a b : List ByteArray) (hm : a.length ≤ 9223372036854775807) (k : Nat) (hk : a.length < k) : armadaref03_Same.f k a b = some (decide (a = b)) := by
  unfold armadaref03_Same.f
  by_cases h : a.length = b.length
  · rw [if_pos (by omega)]
    have := same_l0 a b h hm a.length k 0 (by omega) (by omega) hk
    simpa using this
  · rw [if_neg (by omega)]
    congr 1
    symm
    exact decide_eq_false (fun e => h (by rw [e]))
end Go.Proofs.Ythoddglnfdmdeaa.Pl
set_option linter.unusedVariables false
set_option linter.unusedSimpArgs false
namespace Go.Proofs.Ythoddglnfdmdeaa.P
open Go.RowKit Go.Proofs.YthoddglnfdmdeaaW.PrintWords Go.Proofs.YthoddglnfdmdeaaW.PrintLast Go.Proofs.YthoddglnfdmdeaaW.PrintMore
theorem mayB_mk {s : List ByteArray} {c : List S29} (h1 : 1 ≤ s.length) (h2 : s.length ≤ 512) (h3 : ∀ x ∈ s, x.size = 32) (h4 : ∀ x ∈ c, 0 ≤ x.f0 ∧ x.f0 < (s.length : Int) ∧ x.f1.size = 32) : mayB s c = true := by
  unfold mayB
  simp only [Bool.and_eq_true, decide_eq_true_eq, List.all_eq_true]
  exact ⟨h1, h2, fun x hx => by simpa [secB] using h3 x hx, fun x hx => by simpa [okW] using h4 x hx⟩
theorem fil_size {x : ByteArray} (h : x.size ≤ 32) : (fil x).size = 32 := by
  unfold fil; rw [ByteArray.size_append, zerosB_size]; omega
theorem mayB_put {s : List ByteArray} {c : List S29} {a : Int} {x : ByteArray} (h : mayB s c = true) (ha : isB s a = true) (hx : x.size ≤ 32) : mayB s (c ++ [⟨a, fil x⟩]) = true := by
  obtain ⟨h1, h2, h3⟩ := mayB_sec h
  refine mayB_mk h1 h2 h3 ?_
  intro y hy
  rcases List.mem_append.1 hy with h4 | h4
  · exact mayB_wr h y h4
  · obtain rfl := List.mem_singleton.1 h4
    unfold isB at ha
    simp only [Bool.and_eq_true, decide_eq_true_eq] at ha
    exact ⟨ha.1, ha.2, fil_size hx⟩
end Go.Proofs.Ythoddglnfdmdeaa.P
set_option linter.unusedVariables false
set_option linter.unusedSimpArgs false
namespace Go.Proofs.Ythoddglnfdmdeaa.Pl
set_option linter.unusedSimpArgs false
open Go.RowKit Go.Proofs.Ythoddglnfdmdeaa.P Go.Proofs.YthoddglnfdmdeaaW.PrintWords Go.Proofs.YthoddglnfdmdeaaW.PrintLast Go.Proofs.YthoddglnfdmdeaaW.PrintMore
/-- Do sectors join to a payload of a size? -/
def joins (l : List ByteArray) (n : Int) : Prop := cntP n = (l.length : Int) ∧ odd32 l = false ∧ cutP ((joined l).extract 0 n.toNat) = l
instance (l : List ByteArray) (n : Int) : Decidable (joins l n) := by unfold joins; infer_instance
def joinP (l : List ByteArray) (n : Int) : ByteArray × Bool := if joins l n then ((joined l).extract 0 n.toNat, true) else (⟨#[]⟩, false)
theorem cntP_some {n : Int} {m : Nat} (h : cntP n = (m : Int)) : 0 ≤ n ∧ n ≤ 4096 ∧ m = cntN n.toNat := by
  unfold cntP cntN at *
  split at h <;> omega
theorem cutP_length (s : ByteArray) (h : s.size ≤ 4096) : (cutP s).length = cntN s.size := by unfold cutP; rw [if_pos h, cutN_length]
theorem Join_spec (l : List ByteArray) (n : Int) (k : Nat) (hk : 300 ≤ k) : rec_Join.f k l n = some (joinP l n) := by
  unfold rec_Join.f joinP
  rw [Count_spec, Option.bind_some]
  by_cases h : cntP n = (l.length : Int)
  · rw [if_pos h]
    obtain ⟨h0, h1, h2⟩ := cntP_some h
    by_cases ho : odd32 l = true
    · rw [if_pos ho, if_neg (fun x => by rw [x.2.1] at ho; cases ho)]
    · have ho' : odd32 l = false := by simpa using ho
      have hj := joined_size l ho'
      have hsz : ((joined l).extract 0 n.toNat).size = n.toNat := by rw [ByteArray.size_extract, hj]; unfold cntN at h2; omega
      rw [if_neg ho, if_pos (by unfold cntN at h2; omega), if_pos h0, if_pos (by rw [hj]; unfold cntN at h2; omega), Cut_spec _ k (by omega), Option.bind_some, Equal_spec _ l (by rw [cutP_length _ (by omega), hsz]; unfold cntN; omega) k (by rw [cutP_length _ (by omega), hsz]; unfold cntN; omega), Option.bind_some]
      by_cases hc : cutP ((joined l).extract 0 n.toNat) = l
      · rw [if_pos (decide_eq_true hc), if_pos ⟨h, ho', hc⟩]
      · rw [if_neg (by simpa using hc), if_neg (fun x => hc x.2.2)]
  · rw [if_neg h, if_neg (fun x => h x.1)]
end Go.Proofs.Ythoddglnfdmdeaa.Pl
namespace Go.Proofs.Ythoddglnfdmdeaa.P
open Go.RowKit Go.Proofs.YthoddglnfdmdeaaW.PrintWords Go.Proofs.YthoddglnfdmdeaaW.PrintLast Go.Proofs.YthoddglnfdmdeaaW.PrintMore Go.Proofs.Ythoddglnfdmdeaa.Pl
set_option linter.unusedVariables false
abbrev Cache := List S29
/-- What the sectors of a disk have. -/
def vw (s : List ByteArray) (c : Cache) (a : Int) : ByteArray := (getZ s c a).1
def checkB (f z : Int) : Bool := decide (2 ≤ z) && (decide (z ≤ 512) && (decide (0 ≤ f) && decide (f ≤ 512 - z)))
theorem checkB_iff (f z : Int) : checkB f z = true ↔ 2 ≤ z ∧ z ≤ 512 ∧ 0 ≤ f ∧ f ≤ 512 - z := by simp [checkB]
def liesB (f z : Int) (s : List ByteArray) (c : Cache) : Bool := checkB f z && (mayB s c && decide (f + z ≤ (s.length : Int)))
theorem jin_f (a b c : Int) : journal_in.f a b c = some (decide (b ≤ a) && decide (a ≤ c)) := by
  unfold journal_in.f
  by_cases h : b ≤ a
  · rw [if_pos h, decide_eq_true h, Bool.true_and]
  · rw [if_neg h, decide_eq_false h, Bool.false_and]
theorem check_f (f z : Int) : journal_Region_Check.f f z = some (checkB f z) := by
  unfold journal_Region_Check.f checkB
  rw [jin_f, jin_f]
  simp only [Option.bind_some]
  by_cases h : 2 ≤ z ∧ z ≤ 512
  · rw [decide_eq_true h.1, decide_eq_true h.2, w64 (by omega) (by omega)]; rfl
  · rw [if_neg (by simpa using h)]
    congr 1
    symm
    rw [← Bool.and_assoc]
    rw [show (decide (2 ≤ z) && decide (z ≤ 512)) = false from by simpa using h]
    rfl
theorem end_f {f z : Int} (h : checkB f z = true) : journal_Region_end.f f z = some (f + z) := by
  have h := (checkB_iff f z).1 h
  unfold journal_Region_end.f
  rw [w64 (by omega) (by omega)]
theorem lies_f (f z : Int) (s : List ByteArray) (c : Cache) (hs : s.length ≤ 1000000) (hc : c.length ≤ 1000000) (k : Nat) (hk : s.length + c.length + 10 ≤ k) : journal_place_lies.f k f z s c = some (liesB f z s c) := by
  unfold journal_place_lies.f liesB
  rw [check_f]
  simp only [Option.bind_some]
  by_cases h : checkB f z = true
  · rw [if_pos h, may_f s c (by omega) (by omega) k (by omega), h]
    simp only [Option.bind_some, Bool.true_and]
    by_cases hm : mayB s c = true
    · rw [if_pos hm, hm, end_f h]; rfl
    · rw [if_neg hm, Bool.eq_false_iff.2 hm]; rfl
  · rw [if_neg h, Bool.eq_false_iff.2 h]; rfl
theorem rlies_f (f z : Int) (s : List ByteArray) (c : Cache) (hs : s.length ≤ 1000000) (hc : c.length ≤ 1000000) (k : Nat) (hk : s.length + c.length + 10 ≤ k) : armadaref04_Lies.f k s c f z = some (liesB f z s c) := by
  unfold armadaref04_Lies.f liesB armadaref04_Check.f
  by_cases h : checkB f z = true
  · have hh := (checkB_iff f z).1 h
    rw [if_pos (by omega), if_pos (by omega), if_pos (by omega), w64 (by omega) (by omega)]
    simp only [Option.bind_some]
    rw [if_pos (decide_eq_true (by omega)), rmay_f s c hs hc k (by omega), h]
    simp only [Option.bind_some, Bool.true_and]
    by_cases hm : mayB s c = true
    · rw [if_pos hm, hm, w64 (by omega) (by omega)]; rfl
    · rw [if_neg hm, Bool.eq_false_iff.2 hm]; rfl
  · rw [Bool.eq_false_iff.2 h, Bool.false_and]
    have hn := fun q => h ((checkB_iff f z).2 q)
    by_cases h0 : f ≥ 0
    · rw [if_pos h0]
      by_cases h1 : z ≥ 2
      · rw [if_pos h1]
        by_cases h2 : z ≤ 512
        · rw [if_pos h2, w64 (by omega) (by omega)]
          simp only [Option.bind_some]
          have hq : ¬ (f ≤ 512 - z) := fun q => hn ⟨h1, h2, h0, q⟩
          rw [if_neg (by simpa using hq)]
        · rw [if_neg h2]; rfl
      · rw [if_neg h1]; rfl
    · rw [if_neg h0]; rfl
theorem head_f (f z : Int) (s : List ByteArray) (c : Cache) (a : Int) (k : Nat) (hk : 5 ≤ k) : journal_place_head.f k f z s c a = some (readP (vw s c a)) := by
  unfold journal_place_head.f
  rw [show disk_Get.f s c a = some (getZ s c a) from rfl]
  simp only [Option.bind_some]
  rw [Read_spec _ k hk]
  rfl
/-- The sectors from a place on. -/
def secs (D : Int → ByteArray) (a : Int) (n : Nat) : List ByteArray := (List.range n).map (fun (i : Nat) => D (a + (i : Int)))
theorem secs_length (D : Int → ByteArray) (a : Int) (n : Nat) : (secs D a n).length = n := by simp [secs]
theorem secs_succ (D : Int → ByteArray) (a : Int) (n : Nat) : secs D a (n + 1) = secs D a n ++ [D (a + (n : Int))] := by simp [secs, List.range_succ]
theorem secs_congr {D E : Int → ByteArray} {a : Int} {n : Nat} (h : ∀ i : Nat, i < n → D (a + (i : Int)) = E (a + (i : Int))) : secs D a n = secs E a n := by
  unfold secs
  exact List.map_congr_left (fun i hi => h i (List.mem_range.1 hi))
/-- Is the sector the head of that record? -/
def isRec (D : Int → ByteArray) (e a gen seq : Int) : Bool :=
  (readP (D a)).2.2.2.2.2 && (decide ((readP (D a)).1 = 2) && (decide ((readP (D a)).2.1 = gen) && (decide ((readP (D a)).2.2.1 = seq) && decide (a + 1 + cntP (readP (D a)).2.2.2.1 ≤ e))))
def recP (D : Int → ByteArray) (e a gen seq : Int) : ByteArray × Int × Bool :=
  if isRec D e a gen seq = true then
    ((joinP (secs D (a + 1) (cntP (readP (D a)).2.2.2.1).toNat) (readP (D a)).2.2.2.1).1, a + 1 + cntP (readP (D a)).2.2.2.1,
      (joinP (secs D (a + 1) (cntP (readP (D a)).2.2.2.1).toNat) (readP (D a)).2.2.2.1).2 && decide (num (ofP (bs (joinP (secs D (a + 1) (cntP (readP (D a)).2.2.2.1).toNat) (readP (D a)).2.2.2.1).1)) = (readP (D a)).2.2.2.2.1))
  else (⟨#[]⟩, 0, false)
theorem cntP_range (n : Int) : -1 ≤ cntP n ∧ cntP n ≤ 133 := by unfold cntP; split <;> omega
theorem readP_cnt (x : ByteArray) : 0 ≤ cntP (readP x).2.2.2.1 := by
  unfold readP
  split
  · rename_i h
    have h1 := h.2.1
    unfold mayP at h1
    show 0 ≤ cntP (numAt x 10)
    unfold cntP
    rw [if_pos h1.2.2.2.1]; omega
  · show 0 ≤ cntP 0
    decide
theorem joinP_size (l : List ByteArray) (n : Int) : (joinP l n).1.size ≤ 4096 := by
  unfold joinP
  split
  · rename_i h
    have := cntP_some h.1
    show ((joined l).extract 0 n.toNat).size ≤ 4096
    rw [ByteArray.size_extract]; omega
  · show (0 : Nat) ≤ 4096
    omega
theorem record_l0 (f z : Int) (s : List ByteArray) (c : Cache) (nx a : Int) (h1 h2 h3 size sum : Int) (ha : 0 ≤ a) (ha2 : a ≤ 600) (m : Nat) (hm : m ≤ 200) (hnx : nx = a + (m : Int)) : ∀ (d i k : Nat), m - i = d → i ≤ m → d + 5000 ≤ k →
    journal_place_record.l0 k nx (secs (vw s c) a i) (a + (i : Int)) f z s c h1 h2 h3 size sum =
      some ((joinP (secs (vw s c) a m) size).1, nx, (joinP (secs (vw s c) a m) size).2 && decide (num (ofP (bs (joinP (secs (vw s c) a m) size).1)) = sum))
  | 0, i, k, hd, hi, hk => by
    obtain ⟨k, rfl⟩ : ∃ k', k = k' + 1 := ⟨k - 1, by omega⟩
    have : i = m := by omega
    subst this
    rw [journal_place_record.l0, if_neg (by omega), Join_spec _ _ k (by omega)]
    simp only [Option.bind_some]
    have hz := joinP_size (secs (vw s c) a i) size
    cases hj : (joinP (secs (vw s c) a i) size).2
    · rw [if_neg (by simp)]; simp
    · rw [if_pos rfl, of_spec _ (by omega) k (by omega)]
      simp only [Option.bind_some, Bool.true_and]
      rfl
  | d + 1, i, k, hd, hi, hk => by
    obtain ⟨k, rfl⟩ : ∃ k', k = k' + 1 := ⟨k - 1, by omega⟩
    rw [journal_place_record.l0, if_pos (by omega), show disk_Get.f s c (a + (i : Int)) = some (getZ s c (a + (i : Int))) from rfl]
    simp only [Option.bind_some]
    rw [if_pos (by rw [secs_length]; omega), show (getZ s c (a + (i : Int))).1 = vw s c (a + (i : Int)) from rfl, ← secs_succ, w64 (by omega) (by omega), show a + (i : Int) + 1 = a + ((i + 1 : Nat) : Int) from by omega]
    exact record_l0 f z s c nx a h1 h2 h3 size sum ha ha2 m hm hnx d (i + 1) k (by omega) (by omega) (by omega)
theorem record_f (f z : Int) (s : List ByteArray) (c : Cache) (a gen seq : Int) (hc : checkB f z = true) (ha : 0 ≤ a) (ha2 : a ≤ 520) (k : Nat) (hk : 6000 ≤ k) :
    journal_place_record.f k f z s c a gen seq = some (recP (vw s c) (f + z) a gen seq) := by
  have hn := readP_cnt (vw s c a)
  have hr := cntP_range (readP (vw s c a)).2.2.2.1
  have no : ∀ (k' : Nat) (q1 q2 q3 q4 q5 q6 : Int), 1 ≤ k' → isRec (vw s c) (f + z) a gen seq = false → journal_place_record.j0 k' a q1 true f z s c q2 q3 q4 q5 q6 = some (recP (vw s c) (f + z) a gen seq) := by
    intro k' q1 q2 q3 q4 q5 q6 hk' hi
    obtain ⟨k', rfl⟩ : ∃ k2, k' = k2 + 1 := ⟨k' - 1, by omega⟩
    rw [journal_place_record.j0, if_pos rfl]
    unfold recP
    rw [hi]; rfl
  unfold journal_place_record.f
  rw [head_f f z s c a k (by omega)]
  simp only [Option.bind_some]
  rw [Count_spec]
  simp only [Option.bind_some]
  by_cases h0 : (readP (vw s c a)).2.2.2.2.2 = true
  rotate_left
  · rw [if_neg h0]; exact no k _ _ _ _ _ _ (by omega) (by unfold isRec; rw [Bool.eq_false_iff.2 h0]; rfl)
  rw [if_pos h0]
  by_cases h1 : (readP (vw s c a)).1 = 2
  rotate_left
  · rw [if_neg h1]; exact no k _ _ _ _ _ _ (by omega) (by unfold isRec; rw [decide_eq_false h1]; simp)
  rw [if_pos h1]
  by_cases h2 : (readP (vw s c a)).2.1 = gen
  rotate_left
  · rw [if_neg h2]; exact no k _ _ _ _ _ _ (by omega) (by unfold isRec; rw [decide_eq_false h2]; simp)
  rw [if_pos h2]
  by_cases h3 : (readP (vw s c a)).2.2.1 = seq
  rotate_left
  · rw [if_neg h3]; exact no k _ _ _ _ _ _ (by omega) (by unfold isRec; rw [decide_eq_false h3]; simp)
  rw [if_pos h3, end_f hc]
  simp only [Option.bind_some]
  rw [w64 (x := a + 1) (by omega) (by omega), w64 (x := a + 1 + _) (by omega) (by omega)]
  by_cases h4 : a + 1 + cntP (readP (vw s c a)).2.2.2.1 ≤ f + z
  rotate_left
  · rw [decide_eq_true (show a + 1 + cntP (readP (vw s c a)).2.2.2.1 > f + z by omega)]; exact no k _ _ _ _ _ _ (by omega) (by unfold isRec; rw [decide_eq_false h4]; simp)
  rw [decide_eq_false (show ¬ a + 1 + cntP (readP (vw s c a)).2.2.2.1 > f + z by omega)]
  obtain ⟨k, rfl⟩ : ∃ k2, k = k2 + 1 := ⟨k - 1, by omega⟩
  rw [journal_place_record.j0, if_neg (by simp), w64 (x := a + 1) (by omega) (by omega)]
  have h := record_l0 f z s c (a + 1 + cntP (readP (vw s c a)).2.2.2.1) (a + 1) (readP (vw s c a)).1 (readP (vw s c a)).2.1 (readP (vw s c a)).2.2.1 (readP (vw s c a)).2.2.2.1 (readP (vw s c a)).2.2.2.2.1 (by omega) (by omega) (cntP (readP (vw s c a)).2.2.2.1).toNat (by omega) (by omega) _ 0 k rfl (by omega) (by omega)
  rw [show a + 1 + ((0 : Nat) : Int) = a + 1 from by omega] at h
  refine h.trans ?_
  unfold recP
  rw [if_pos (by unfold isRec; rw [h0, decide_eq_true h1, decide_eq_true h2, decide_eq_true h3, decide_eq_true h4]; rfl)]
end Go.Proofs.Ythoddglnfdmdeaa.P
namespace Go.Proofs.Ythoddglnfdmdeaa.P
open Go.RowKit Go.Proofs.YthoddglnfdmdeaaW.PrintWords Go.Proofs.YthoddglnfdmdeaaW.PrintLast Go.Proofs.YthoddglnfdmdeaaW.PrintMore Go.Proofs.Ythoddglnfdmdeaa.Pl
set_option linter.unusedVariables false
theorem recP_true {D : Int → ByteArray} {e a gen seq : Int} (h : (recP D e a gen seq).2.2 = true) : isRec D e a gen seq = true ∧ a + 1 ≤ (recP D e a gen seq).2.1 ∧ (recP D e a gen seq).2.1 ≤ e ∧ (recP D e a gen seq).2.1 = a + 1 + cntP (readP (D a)).2.2.2.1 := by
  by_cases hi : isRec D e a gen seq = true
  · have hn := readP_cnt (D a)
    have he : (recP D e a gen seq).2.1 = a + 1 + cntP (readP (D a)).2.2.2.1 := by unfold recP; rw [if_pos hi]
    rw [he]
    refine ⟨hi, by omega, ?_, rfl⟩
    unfold isRec at hi
    simp only [Bool.and_eq_true, decide_eq_true_eq] at hi
    exact hi.2.2.2.2
  · unfold recP at h
    rw [if_neg hi] at h
    cases h
theorem recP_congr {D E : Int → ByteArray} {e a gen seq : Int} (h : D a = E a) (h2 : isRec D e a gen seq = true → ∀ b, a < b → b < a + 1 + cntP (readP (D a)).2.2.2.1 → D b = E b) : recP D e a gen seq = recP E e a gen seq := by
  have hi : isRec D e a gen seq = isRec E e a gen seq := by unfold isRec; rw [h]
  unfold recP
  rw [← hi, ← h]
  by_cases hr : isRec D e a gen seq = true
  · rw [if_pos hr, if_pos hr]
    have hs : secs D (a + 1) (cntP (readP (D a)).2.2.2.1).toNat = secs E (a + 1) (cntP (readP (D a)).2.2.2.1).toNat := secs_congr (fun i hi => h2 hr _ (by omega) (by omega))
    rw [hs]
  · rw [if_neg hr, if_neg hr]
/-- The log from a place on. -/
def scan (D : Int → ByteArray) (e gen : Int) : Nat → List ByteArray → Int → List ByteArray × Int
  | 0, items, nx => (items, nx)
  | k + 1, items, nx => if nx = e then (items, nx) else if (recP D e nx gen (items.length : Int)).2.2 = true then scan D e gen k (items ++ [(recP D e nx gen (items.length : Int)).1]) (recP D e nx gen (items.length : Int)).2.1 else (items, nx)
theorem open_l0 (f z : Int) (s : List ByteArray) (c : Cache) (gen : Int) (hc : checkB f z = true) : ∀ (d k : Nat) (items : List ByteArray) (nx : Int), 0 ≤ nx → nx ≤ f + z → (f + z - nx).toNat ≤ d → items.length + d ≤ 10000 → d + 6010 ≤ k →
    journal_Open.l0 k f z f z s c gen items nx = some (gen, (scan (vw s c) (f + z) gen d items nx).1, (scan (vw s c) (f + z) gen d items nx).2, 0)
  | 0, k, items, nx, h0, h1, hd, hl, hk => by
    obtain ⟨k, rfl⟩ : ∃ k', k = k' + 1 := ⟨k - 1, by omega⟩
    rw [journal_Open.l0, end_f hc]
    simp only [Option.bind_some]
    rw [if_pos (by omega)]; rfl
  | d + 1, k, items, nx, h0, h1, hd, hl, hk => by
    obtain ⟨k, rfl⟩ : ∃ k', k = k' + 1 := ⟨k - 1, by omega⟩
    have hcc := (checkB_iff f z).1 hc
    rw [journal_Open.l0, end_f hc]
    simp only [Option.bind_some]
    rw [scan]
    by_cases he : nx = f + z
    · rw [if_pos he, if_pos he]
    · rw [if_neg he, if_neg he, record_f f z s c nx gen _ hc h0 (by omega) k (by omega)]
      simp only [Option.bind_some]
      by_cases hr : (recP (vw s c) (f + z) nx gen (items.length : Int)).2.2 = true
      · have h := recP_true hr
        rw [if_pos hr, if_pos hr, if_pos (by omega)]
        exact open_l0 f z s c gen hc d k _ _ (by omega) (by omega) (by omega) (by rw [List.length_append, List.length_singleton]; omega) (by omega)
      · rw [if_neg hr, if_neg hr]
/-- Is it the head of a log? -/
def begB (x : ByteArray) : Bool := (readP x).2.2.2.2.2 &&
  !(!((readP x).1 == (makeP 1 (readP x).2.1 0 ⟨#[]⟩).1) || (!((readP x).2.1 == (makeP 1 (readP x).2.1 0 ⟨#[]⟩).2.1) || (!((readP x).2.2.1 == (makeP 1 (readP x).2.1 0 ⟨#[]⟩).2.2.1) || (!((readP x).2.2.2.1 == (makeP 1 (readP x).2.1 0 ⟨#[]⟩).2.2.2.1) || (!((readP x).2.2.2.2.1 == (makeP 1 (readP x).2.1 0 ⟨#[]⟩).2.2.2.2.1))))))
def openP (D : Int → ByteArray) (f e : Int) : Int × List ByteArray × Int × Int :=
  if begB (D f) = true then ((readP (D f)).2.1, (scan D e (readP (D f)).2.1 600 [] (f + 1)).1, (scan D e (readP (D f)).2.1 600 [] (f + 1)).2, 0) else (0, [], 0, 5)
def openZ (s : List ByteArray) (c : Cache) (f z : Int) : Int × List ByteArray × Int × Int := if liesB f z s c = true then openP (vw s c) f (f + z) else (0, [], 0, 1)
theorem liesB_true {f z : Int} {s : List ByteArray} {c : Cache} (h : liesB f z s c = true) : checkB f z = true ∧ mayB s c = true ∧ f + z ≤ (s.length : Int) := by
  unfold liesB at h
  simp only [Bool.and_eq_true, decide_eq_true_eq] at h
  exact ⟨h.1, h.2.1, h.2.2⟩
theorem open_f (f z : Int) (s : List ByteArray) (c : Cache) (hs : s.length ≤ 1000) (hc : c.length ≤ 10000) (k : Nat) (hk : 20000 ≤ k) : journal_Open.f k s c f z = some (openZ s c f z) := by
  unfold journal_Open.f openZ
  rw [lies_f f z s c (by omega) (by omega) k (by omega)]
  simp only [Option.bind_some]
  by_cases hl : liesB f z s c = true
  rotate_left
  · rw [if_neg hl, if_neg hl]
  have hcc := (checkB_iff f z).1 (liesB_true hl).1
  rw [if_pos hl, if_pos hl, head_f f z s c f k (by omega)]
  simp only [Option.bind_some]
  rw [Make_spec 1 _ 0 _ (by show (0 : Nat) ≤ _; omega) k (by show 0 < k; omega)]
  simp only [Option.bind_some]
  unfold openP begB
  have key : ∀ q : Bool, journal_Open.j0 k q f z f z s c (readP (vw s c f)).1 (readP (vw s c f)).2.1 (readP (vw s c f)).2.2.1 (readP (vw s c f)).2.2.2.1 (readP (vw s c f)).2.2.2.2.1 =
      some (if (!q) = true then ((readP (vw s c f)).2.1, (scan (vw s c) (f + z) (readP (vw s c f)).2.1 600 [] (f + 1)).1, (scan (vw s c) (f + z) (readP (vw s c f)).2.1 600 [] (f + 1)).2, 0) else (0, [], 0, 5)) := by
    intro q
    obtain ⟨k, rfl⟩ : ∃ k', k = k' + 1 := ⟨k - 1, by omega⟩
    rw [journal_Open.j0]
    cases q
    · rw [if_neg (by decide), if_pos (by decide), w64 (by omega) (by omega), open_l0 f z s c _ (liesB_true hl).1 600 k [] (f + 1) (by omega) (by omega) (by omega) (by simp) (by omega)]
    · rw [if_pos rfl, if_neg (by decide)]
  by_cases hi : (readP (vw s c f)).2.2.2.2.2 = true
  · rw [if_pos hi, key, hi, Bool.true_and]
  · rw [if_neg hi, key, Bool.eq_false_iff.2 hi, Bool.false_and]; rfl
/-- Is the sector the head of a transaction of that generation, of that number or behind it? -/
def badB (x : ByteArray) (gen n : Int) : Bool := (readP x).2.2.2.2.2 && (decide ((readP x).1 = 2) && (decide ((readP x).2.1 = gen) && decide ((readP x).2.2.1 ≥ n)))
def clB (D : Int → ByteArray) (gen n : Int) : Nat → Int → Bool
  | 0, _ => true
  | d + 1, a => !badB (D a) gen n && clB D gen n d (a + 1)
theorem clean_l0 (f z : Int) (s : List ByteArray) (c : Cache) (gen : Int) (items : List ByteArray) (nx : Int) (hc : checkB f z = true) : ∀ (d k : Nat) (a : Int), 0 ≤ a → (f + z - a).toNat = d → d + 10 ≤ k →
    journal_Clean.l0 k a f z gen items nx f z s c = some (clB (vw s c) gen (items.length : Int) d a)
  | 0, k, a, h0, hd, hk => by
    obtain ⟨k, rfl⟩ : ∃ k', k = k' + 1 := ⟨k - 1, by omega⟩
    rw [journal_Clean.l0, end_f hc]
    simp only [Option.bind_some]
    rw [if_neg (by omega)]; rfl
  | d + 1, k, a, h0, hd, hk => by
    obtain ⟨k, rfl⟩ : ∃ k', k = k' + 1 := ⟨k - 1, by omega⟩
    have hcc := (checkB_iff f z).1 hc
    rw [journal_Clean.l0, end_f hc]
    simp only [Option.bind_some]
    rw [if_pos (by omega), head_f f z s c a k (by omega)]
    simp only [Option.bind_some]
    rw [w64 (by omega) (by omega), clean_l0 f z s c gen items nx hc d k (a + 1) (by omega) (by omega) (by omega), clB, badB]
    cases (readP (vw s c a)).2.2.2.2.2
    · rw [if_neg (by decide)]; rfl
    rw [if_pos rfl, Bool.true_and]
    by_cases h1 : (readP (vw s c a)).1 = 2
    rotate_left
    · rw [if_neg h1, decide_eq_false h1]; rfl
    rw [if_pos h1, decide_eq_true h1, Bool.true_and]
    by_cases h2 : (readP (vw s c a)).2.1 = gen
    rotate_left
    · rw [if_neg h2, decide_eq_false h2]; rfl
    rw [if_pos h2, decide_eq_true h2, Bool.true_and]
    by_cases h3 : (readP (vw s c a)).2.2.1 ≥ (items.length : Int)
    · rw [if_pos h3, decide_eq_true h3]; rfl
    · rw [if_neg h3, decide_eq_false h3]; rfl
def cleanZ (s : List ByteArray) (c : Cache) (f z gen n nx : Int) : Bool := liesB f z s c && clB (vw s c) gen n (f + z - mx nx f).toNat (mx nx f)
theorem clean_f (f z : Int) (s : List ByteArray) (c : Cache) (gen : Int) (items : List ByteArray) (nx : Int) (hs : s.length ≤ 1000) (hc : c.length ≤ 10000) (k : Nat) (hk : 20000 ≤ k) : journal_Clean.f k s c f z gen items nx = some (cleanZ s c f z gen (items.length : Int) nx) := by
  unfold journal_Clean.f cleanZ
  rw [lies_f f z s c (by omega) (by omega) k (by omega)]
  simp only [Option.bind_some]
  by_cases hl : liesB f z s c = true
  rotate_left
  · rw [if_neg hl, Bool.eq_false_iff.2 hl]; rfl
  have hcc := (checkB_iff f z).1 (liesB_true hl).1
  have hm : f ≤ mx nx f := by unfold mx; split <;> omega
  rw [if_pos hl, hl, Bool.true_and]
  exact clean_l0 f z s c gen items nx (liesB_true hl).1 _ k _ (by omega) rfl (by omega)
end Go.Proofs.Ythoddglnfdmdeaa.P
namespace Go.Proofs.Ythoddglnfdmdeaa.P
open Go.RowKit Go.Proofs.YthoddglnfdmdeaaW.PrintWords Go.Proofs.YthoddglnfdmdeaaW.PrintLast Go.Proofs.YthoddglnfdmdeaaW.PrintMore Go.Proofs.Ythoddglnfdmdeaa.Pl
set_option linter.unusedVariables false
theorem scan_bound (D : Int → ByteArray) (e gen : Int) : ∀ (k : Nat) (items : List ByteArray) (nx : Int), nx ≤ e → nx ≤ (scan D e gen k items nx).2 ∧ (scan D e gen k items nx).2 ≤ e
  | 0, items, nx, h => ⟨Int.le_refl _, h⟩
  | k + 1, items, nx, h => by
    rw [scan]
    by_cases he : nx = e
    · rw [if_pos he]; exact ⟨Int.le_refl _, h⟩
    · rw [if_neg he]
      by_cases hr : (recP D e nx gen (items.length : Int)).2.2 = true
      · rw [if_pos hr]
        have hh := recP_true hr
        have := scan_bound D e gen k (items ++ [(recP D e nx gen (items.length : Int)).1]) _ hh.2.2.1
        omega
      · rw [if_neg hr]; exact ⟨Int.le_refl _, h⟩
theorem scan_len (D : Int → ByteArray) (e gen : Int) : ∀ (k : Nat) (items : List ByteArray) (nx : Int), nx ≤ e → items.length ≤ (scan D e gen k items nx).1.length ∧ ((scan D e gen k items nx).1.length : Int) + nx ≤ items.length + (scan D e gen k items nx).2
  | 0, items, nx, h => ⟨Nat.le_refl _, by rw [scan]; simp⟩
  | k + 1, items, nx, h => by
    rw [scan]
    by_cases he : nx = e
    · rw [if_pos he]; exact ⟨Nat.le_refl _, by simp⟩
    · rw [if_neg he]
      by_cases hr : (recP D e nx gen (items.length : Int)).2.2 = true
      · rw [if_pos hr]
        have hh := recP_true hr
        have := scan_len D e gen k (items ++ [(recP D e nx gen (items.length : Int)).1]) _ hh.2.2.1
        rw [List.length_append, List.length_singleton] at this
        omega
      · rw [if_neg hr]; exact ⟨Nat.le_refl _, by simp⟩
theorem rec_congr_in {D E : Int → ByteArray} {e a gen seq : Int} (ha : a < e) (h : ∀ b, a ≤ b → b < e → D b = E b) : recP D e a gen seq = recP E e a gen seq := by
  refine recP_congr (h a (Int.le_refl _) ha) (fun hi b h1 h2 => ?_)
  unfold isRec at hi
  simp only [Bool.and_eq_true, decide_eq_true_eq] at hi
  have := hi.2.2.2.2
  exact h b (by omega) (by omega)
theorem scan_congr {D E : Int → ByteArray} (e gen : Int) : ∀ (k : Nat) (items : List ByteArray) (nx : Int), nx ≤ e → (∀ b, nx ≤ b → b < e → D b = E b) → scan D e gen k items nx = scan E e gen k items nx
  | 0, items, nx, h, hh => rfl
  | k + 1, items, nx, h, hh => by
    rw [scan, scan]
    by_cases he : nx = e
    · rw [if_pos he, if_pos he]
    · rw [if_neg he, if_neg he, ← rec_congr_in (by omega) hh]
      by_cases hr : (recP D e nx gen (items.length : Int)).2.2 = true
      · have := recP_true hr
        rw [if_pos hr, if_pos hr]
        exact scan_congr e gen k _ _ (by omega) (fun b h1 h2 => hh b (by omega) h2)
      · rw [if_neg hr, if_neg hr]
theorem clB_congr {D E : Int → ByteArray} (gen n : Int) : ∀ (d : Nat) (a : Int), (∀ b, a ≤ b → b < a + (d : Int) → D b = E b) → clB D gen n d a = clB E gen n d a
  | 0, _, _ => rfl
  | d + 1, a, h => by rw [clB, clB, h a (by omega) (by omega), clB_congr gen n d (a + 1) (fun b h1 h2 => h b (by omega) (by omega))]
end Go.Proofs.Ythoddglnfdmdeaa.P
namespace Go.Proofs.Ythoddglnfdmdeaa.Pure
open Go.RowKit Go.Proofs.YthoddglnfdmdeaaW.PrintWords Go.Proofs.YthoddglnfdmdeaaW.PrintLast Go.Proofs.YthoddglnfdmdeaaW.PrintMore Go.Proofs.Ythoddglnfdmdeaa.P Go.Proofs.Ythoddglnfdmdeaa.Pl
set_option linter.unusedVariables false
theorem vw_put {s : List ByteArray} {c : Cache} {a : Int} {x : ByteArray} (hm : mayB s c = true) (hw : mayB s (c ++ [(⟨a, x⟩ : S29)]) = true) {b : Int} (hb : b ≠ a) : vw s (c ++ [(⟨a, x⟩ : S29)]) b = vw s c b := by
  unfold vw getZ
  rw [hm, hw]
  split
  · rw [lastW_append, P.lastW, P.lastW, if_neg (fun h => hb h.symm)]
  · rfl
theorem apart_j0 (k : Nat) (s : List ByteArray) (c : Cache) (f z a : Int) (x : ByteArray) (hs : s.length ≤ 600) (hc : c.length ≤ 200) (hx : x.size ≤ 32) (hl : liesB f z s c = true) (ha : ¬ (f ≤ a ∧ a < f + z)) (hk : 30000 ≤ k) :
    armadalaw04_JournalApart.j0 (k + 1) false s c f z a x = some true := by
  rw [armadalaw04_JournalApart.j0, if_neg (by decide), put_f s c a x (by omega) (by omega) _ (by omega)]
  simp only [Option.bind_some]
  by_cases he : (putZ s c a x).2.2 = 0
  rotate_left
  · rw [if_neg he, live_f k (by omega)]; rfl
  rw [if_pos he]
  obtain ⟨hcc, hm, hle⟩ := liesB_true hl
  have hi : isB s a = true := by
    unfold putZ at he
    by_cases hi : (mayB s c && isB s a) = true
    · rw [Bool.and_eq_true] at hi; exact hi.2
    · rw [if_neg hi] at he; exact absurd he (by simp)
  have hpe : putZ s c a x = (s, c ++ [(⟨a, fil x⟩ : S29)], 0) := by
    unfold putZ
    rw [hm, hi, Bool.true_and, if_pos rfl, if_pos hx]
  have hmw : mayB s (c ++ [(⟨a, fil x⟩ : S29)]) = true := mayB_put hm hi hx
  have hlw : liesB f z s (c ++ [(⟨a, fil x⟩ : S29)]) = true := by unfold liesB at hl ⊢; rw [hmw]; rw [hm] at hl; exact hl
  have hch := (checkB_iff f z).1 hcc
  have hD : ∀ b, f ≤ b → b < f + z → vw s c b = vw s (c ++ [(⟨a, fil x⟩ : S29)]) b := fun b h1 h2 => (vw_put hm hmw (fun e => ha (by omega))).symm
  have hO : openZ s c f z = openZ s (c ++ [(⟨a, fil x⟩ : S29)]) f z := by
    unfold openZ openP
    rw [if_pos hl, if_pos hlw, ← hD f (by omega) (by omega), scan_congr (f + z) _ 600 [] (f + 1) (by omega) (fun b h1 h2 => hD b (by omega) h2)]
  rw [hpe]
  simp only []
  rw [open_f f z s c (by omega) (by omega) k (by omega), open_f f z s (c ++ [(⟨a, fil x⟩ : S29)]) (by omega) (by rw [List.length_append, List.length_singleton]; omega) k (by omega), ← hO]
  simp only [Option.bind_some]
  have hlen : (openZ s c f z).2.1.length ≤ 1000 := by
    unfold openZ openP
    rw [if_pos hl]
    split
    · have h1 := scan_len (vw s c) (f + z) (readP (vw s c f)).2.1 600 [] (f + 1) (by omega)
      have h2 := scan_bound (vw s c) (f + z) (readP (vw s c f)).2.1 600 [] (f + 1) (by omega)
      simp only [List.length_nil] at h1
      show (scan (vw s c) (f + z) (readP (vw s c f)).2.1 600 [] (f + 1)).1.length ≤ 1000
      omega
    · exact Nat.zero_le _
  unfold armadalaw04_told.f armadaref04_Same.f
  simp only [Option.bind_some]
  simp only [if_true]
  rw [Same_spec _ _ (by omega) k (by omega), decide_eq_true rfl]
  simp only [Option.bind_some, if_true]
  have hcl : cleanZ s c f z (openZ s c f z).1 ((openZ s c f z).2.1.length : Int) (openZ s c f z).2.2.1 = cleanZ s (c ++ [(⟨a, fil x⟩ : S29)]) f z (openZ s c f z).1 ((openZ s c f z).2.1.length : Int) (openZ s c f z).2.2.1 := by
    unfold cleanZ
    rw [hl, hlw]
    congr 1
    have hm : f ≤ mx (openZ s c f z).2.2.1 f := by unfold mx; split <;> omega
    exact clB_congr _ _ _ _ (fun b h1 h2 => hD b (by omega) (by omega))
  rw [clean_f f z s c _ _ _ (by omega) (by omega) k (by omega)]
  simp only [Option.bind_some]
  rw [clean_f f z s (c ++ [(⟨a, fil x⟩ : S29)]) _ _ _ (by omega) (by rw [List.length_append, List.length_singleton]; omega) k (by omega), ← hcl]
  simp only [Option.bind_some]
  rw [if_pos (by simp), live_f k (by omega)]; rfl
theorem apart_j0t (k : Nat) (s : List ByteArray) (c : Cache) (f z a : Int) (x : ByteArray) (hk : 30000 ≤ k) : armadalaw04_JournalApart.j0 (k + 1) true s c f z a x = some true := by
  rw [armadalaw04_JournalApart.j0, if_pos rfl, live_f k (by omega)]; rfl
theorem JournalApart (s : List ByteArray) (c : Cache) (f z a : Int) (x : ByteArray) (hs : s.length ≤ 9223372036854775807) (hc : c.length ≤ 9223372036854775807) : ∃ k, armadalaw04_JournalApart.f k s c f z a x = some true := by
  refine ⟨s.length + c.length + 40000 + 1, ?_⟩
  unfold armadalaw04_JournalApart.f
  rw [small_f s c hs hc _ (by omega)]
  simp only [Option.bind_some]
  by_cases hm : smallB s c = true
  rotate_left
  · rw [if_neg hm]; exact apart_j0t _ s c f z a x (by omega)
  obtain ⟨l1, l2, -, -⟩ := smallB_lim hm
  rw [if_pos hm]
  by_cases hx : x.size ≤ 32
  rotate_left
  · rw [if_pos (by omega)]; exact apart_j0t _ s c f z a x (by omega)
  rw [if_neg (by omega), rlies_f f z s c (by omega) (by omega) _ (by omega)]
  simp only [Option.bind_some]
  by_cases hl : liesB f z s c = true
  rotate_left
  · rw [if_neg hl]; exact apart_j0t _ s c f z a x (by omega)
  have hch := (checkB_iff f z).1 (liesB_true hl).1
  rw [if_pos hl, w64 (by omega) (by omega)]
  by_cases h1 : a ≥ f
  · rw [if_pos h1]
    by_cases h2 : a < f + z
    · rw [decide_eq_true h2]; exact apart_j0t _ s c f z a x (by omega)
    · rw [decide_eq_false h2]; exact apart_j0 _ s c f z a x l1 l2 hx hl (by omega) (by omega)
  · rw [if_neg h1]; exact apart_j0 _ s c f z a x l1 l2 hx hl (by omega) (by omega)
end Go.Proofs.Ythoddglnfdmdeaa.Pure
