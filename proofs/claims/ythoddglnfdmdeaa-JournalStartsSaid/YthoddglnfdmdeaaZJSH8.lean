/- journal: what live tells. -/
import Derived.Test.YthoddglnfdmdeaaZJSM8
import Derived.Test.YthoddglnfdmdeaaZJSM3
import Derived.Test.YthoddglnfdmdeaaZJSM0
import Derived.Test.YthoddglnfdmdeaaZJSM1
import Derived.Test.YthoddglnfdmdeaaZJSH5
import Derived.Test.YthoddglnfdmdeaaZJSH3
import Derived.Test.YthoddglnfdmdeaaZJSH1
import Derived.OpenShut
import Derived.Deep.Slices
import Derived.ChangeArms
import Derived.SizedLaws
import Derived.Test.YthoddglnfdmdeaaZJSM4
import Derived.Test.YthoddglnfdmdeaaZJSM2
import Derived.Laws.BitsLemmas
import Derived.Test.YthoddglnfdmdeaaZJSH6
import Derived.Test.YthoddglnfdmdeaaZJSM5
import Derived.Test.YthoddglnfdmdeaaZJSM7
import Derived.Test.YthoddglnfdmdeaaZJSM6
import Derived.Test.YthoddglnfdmdeaaZJSH7
import Derived.Test.YthoddglnfdmdeaaZJSM9
set_option linter.unusedVariables false
set_option linter.unusedSimpArgs false
namespace Go.Proofs.Ythoddglnfdmdeaa.P
open Go.RowKit Go.Proofs.YthoddglnfdmdeaaW.PrintWords Go.Proofs.YthoddglnfdmdeaaW.PrintLast Go.Proofs.YthoddglnfdmdeaaW.PrintMore
set_option maxRecDepth 100000 in
theorem live_f0 : armadalaw04_live.f 200 = some true := by decide +kernel
theorem live_f (k : Nat) (hk : 200 ≤ k) : armadalaw04_live.f k = some true := by
  induction k with
  | zero => omega
  | succ k ih =>
    by_cases h : k + 1 = 200
    · rw [h]; exact live_f0
    · exact armadalaw04_live.mono _ _ (ih (by omega))
end Go.Proofs.Ythoddglnfdmdeaa.P
set_option linter.unusedVariables false
set_option linter.unusedSimpArgs false
namespace Go.Proofs.Ythoddglnfdmdeaa.P
open Go.RowKit Go.Proofs.YthoddglnfdmdeaaW.PrintWords Go.Proofs.YthoddglnfdmdeaaW.PrintLast Go.Proofs.YthoddglnfdmdeaaW.PrintMore
def isB (s : List ByteArray) (a : Int) : Bool := decide (0 ≤ a) && decide (a < (s.length : Int))
def fil (x : ByteArray) : ByteArray := x ++ zerosB (32 - x.size)
def putZ (s : List ByteArray) (c : List S29) (a : Int) (x : ByteArray) : List ByteArray × List S29 × Int :=
  if (mayB s c && isB s a) = true then (if x.size ≤ 32 then (s, c ++ [⟨a, fil x⟩], 0) else (s, c, 2)) else (s, c, 1)
def flushZ (s : List ByteArray) (c : List S29) : List ByteArray × List S29 × Int := if mayB s c = true then (wrt (fun _ => true) 0 c s, ([] : List S29), 0) else (s, c, 1)
theorem flush_f (s : List ByteArray) (c : List S29) : disk_Flush.f s c = some (flushZ s c) := by unfold disk_Flush.f flushZ; split <;> rfl
theorem put_f (s : List ByteArray) (c : List S29) (a : Int) (x : ByteArray) (hs : s.length ≤ 9223372036854775807) (hc : c.length ≤ 1000000) (k : Nat) (hk : s.length + c.length + 10 ≤ k) : disk_Put.f k s c a x = some (putZ s c a x) := by
  obtain ⟨k, rfl⟩ : ∃ k', k = k' + 1 := ⟨k - 1, by omega⟩
  unfold disk_Put.f putZ
  rw [may_f s c hs (by omega) _ (by omega)]
  simp only [Option.bind_some]
  by_cases hm : mayB s c = true
  · rw [if_pos hm, is_f, hm, Bool.true_and]
    simp only [Option.bind_some]
    rw [disk_Put.j0]
    change (if (!isB s a) = true then _ else _) = _
    by_cases hi : isB s a = true
    · rw [hi, if_neg (by decide), if_pos rfl]
      by_cases hx : x.size ≤ 32
      · rw [if_neg (by omega), if_pos (by simp; omega), if_pos hx]
        simp only [Option.bind_some, List.nil_append]
        rw [show disk_filled.f x = some (fil x) from if_pos hx]
        simp only [Option.bind_some]
        rw [if_pos (by omega)]
      · rw [if_pos (by omega), if_neg hx]
    · rw [if_neg hi, if_pos (by simp [hi])]
  · rw [if_neg hm, disk_Put.j0, if_pos rfl, if_neg (by simp [hm])]
theorem rmay_l1 (s : List ByteArray) (c : List S29) (hc : c.length ≤ 1000000) : ∀ (r : List S29) (i k : Nat), c.drop i = r → i ≤ c.length → r.length + 2 ≤ k →
    armadaref01_May.l1 k (i : Int) s c = some (r.all (okW s.length) && (decide (1 ≤ s.length) && decide (s.length ≤ 512)))
  | [], i, k, hr, hi, hk => by
    obtain ⟨k, rfl⟩ : ∃ k', k = k' + 1 := ⟨k - 1, by omega⟩
    have : i = c.length := by have := List.drop_eq_nil_iff.1 hr; omega
    subst this
    rw [armadaref01_May.l1, if_neg (by omega), List.all_nil, Bool.true_and]
    by_cases h : 1 ≤ s.length
    · rw [if_pos (by omega), decide_eq_true h, Bool.true_and]; congr 1; exact decide_eq_decide.2 (by omega)
    · rw [if_neg (by omega), decide_eq_false h, Bool.false_and]
  | x :: r, i, k, hr, hi, hk => by
    obtain ⟨k, rfl⟩ : ∃ k', k = k' + 1 := ⟨k - 1, by omega⟩
    obtain ⟨hx, hlt, hd⟩ := rdW_drop hr
    have hk' : r.length + 2 ≤ k := by rw [List.length_cons] at hk; omega
    have ih := rmay_l1 s c hc r (i + 1) k hd (by omega) hk'
    rw [armadaref01_May.l1, if_pos (by omega), if_pos (by omega), hx, wsucc i (by omega), ih, List.all_cons]
    unfold okW
    by_cases h1 : x.f0 < 0
    · rw [if_pos h1, decide_eq_false (show ¬ (0 : Int) ≤ x.f0 by omega)]; simp
    · rw [if_neg h1, decide_eq_true (show (0 : Int) ≤ x.f0 by omega)]
      by_cases h2 : x.f0 ≥ (s.length : Int)
      · rw [if_pos h2, decide_eq_false (show ¬ x.f0 < (s.length : Int) by omega)]; simp
      · rw [if_neg h2, decide_eq_true (show x.f0 < (s.length : Int) by omega)]
        by_cases h3 : x.f1.size = 32
        · rw [if_pos (by omega)]; simp [h3]
        · rw [if_neg (by omega)]; simp [h3]
theorem rmay_l0 (s : List ByteArray) (c : List S29) (hs : s.length ≤ 1000000) (hc : c.length ≤ 1000000) : ∀ (r : List ByteArray) (i k : Nat), s.drop i = r → i ≤ s.length → r.length + c.length + 4 ≤ k →
    armadaref01_May.l0 k (i : Int) s c = some (r.all secB && (c.all (okW s.length) && (decide (1 ≤ s.length) && decide (s.length ≤ 512))))
  | [], i, k, hr, hi, hk => by
    obtain ⟨k, rfl⟩ : ∃ k', k = k' + 1 := ⟨k - 1, by omega⟩
    have : i = s.length := by have := List.drop_eq_nil_iff.1 hr; omega
    subst this
    have h1 := rmay_l1 s c hc c 0 k rfl (Nat.zero_le _) (by simp at hk; omega)
    rw [Int.natCast_zero] at h1
    rw [armadaref01_May.l0, if_neg (by omega), h1]; rfl
  | x :: r, i, k, hr, hi, hk => by
    obtain ⟨k, rfl⟩ : ∃ k', k = k' + 1 := ⟨k - 1, by omega⟩
    obtain ⟨hx, hlt, hd⟩ := rdOf_drop hr
    have hk' : r.length + c.length + 4 ≤ k := by rw [List.length_cons] at hk; omega
    have ih := rmay_l0 s c hs hc r (i + 1) k hd (by omega) hk'
    rw [armadaref01_May.l0, if_pos (by omega), if_pos (by omega), hx, wsucc i (by omega), ih, List.all_cons]
    unfold secB
    by_cases h3 : x.size = 32
    · rw [if_pos (by omega)]; simp [h3]
    · rw [if_neg (by omega)]; simp [h3]
theorem rmay_f (s : List ByteArray) (c : List S29) (hs : s.length ≤ 1000000) (hc : c.length ≤ 1000000) (k : Nat) (hk : s.length + c.length + 6 ≤ k) : armadaref01_May.f k s c = some (mayB s c) := by
  have h := rmay_l0 s c hs hc s 0 k rfl (Nat.zero_le _) (by omega)
  rw [Int.natCast_zero] at h
  unfold armadaref01_May.f mayB
  rw [h]
  congr 1
  cases s.all secB <;> cases c.all (okW s.length) <;> cases decide (1 ≤ s.length) <;> cases decide (s.length ≤ 512) <;> rfl
theorem rget_l0 (s : List ByteArray) (c : List S29) (a : Int) (hc : c.length ≤ 1000000) : ∀ (r : List S29) (i k : Nat) (z : ByteArray), c.drop i = r → i ≤ c.length → r.length + 2 ≤ k →
    armadaref01_Get.l0 k a z (i : Int) s c = some (lastW a r z, 0)
  | [], i, k, z, hr, hi, hk => by
    obtain ⟨k, rfl⟩ : ∃ k', k = k' + 1 := ⟨k - 1, by omega⟩
    have : i = c.length := by have := List.drop_eq_nil_iff.1 hr; omega
    subst this
    rw [armadaref01_Get.l0, if_neg (by omega)]; rfl
  | x :: r, i, k, z, hr, hi, hk => by
    obtain ⟨k, rfl⟩ : ∃ k', k = k' + 1 := ⟨k - 1, by omega⟩
    obtain ⟨hx, hlt, hd⟩ := rdW_drop hr
    have hk' : r.length + 2 ≤ k := by rw [List.length_cons] at hk; omega
    rw [armadaref01_Get.l0, if_pos (by omega), if_pos (by omega), hx, wsucc i (by omega), lastW]
    by_cases h : x.f0 = a
    · rw [if_pos h, if_pos h]; exact rget_l0 s c a hc r (i + 1) k _ hd (by omega) hk'
    · rw [if_neg h, if_neg h]; exact rget_l0 s c a hc r (i + 1) k _ hd (by omega) hk'
theorem rget_f (s : List ByteArray) (c : List S29) (a : Int) (hs : s.length ≤ 1000000) (hc : c.length ≤ 1000000) (k : Nat) (hk : s.length + c.length + 50 ≤ k) : armadaref01_Get.f k s c a = some (getZ s c a) := by
  obtain ⟨k, rfl⟩ : ∃ k', k = k' + 1 := ⟨k - 1, by omega⟩
  unfold armadaref01_Get.f getZ
  rw [rmay_f s c hs hc _ (by omega)]
  simp only [Option.bind_some]
  by_cases hm : mayB s c = true
  · rw [if_pos hm, hm, Bool.true_and]
    by_cases h0 : a < 0
    · rw [if_pos h0, armadaref01_Get.j0, if_pos rfl, if_neg (by simp; omega)]
    · rw [if_neg h0, armadaref01_Get.j0]
      by_cases h1 : a < (s.length : Int)
      · rw [if_neg (by simp; omega), if_pos (by omega), if_pos h1, if_pos (by simp; omega)]
        have h := rget_l0 s c a hc c 0 k (rdOf ByteArray.empty s a) rfl (Nat.zero_le _) (by omega)
        rw [Int.natCast_zero] at h
        exact h
      · rw [if_pos (by simp; omega), if_neg (by simp; omega)]
  · rw [if_neg hm, armadaref01_Get.j0, if_pos rfl, if_neg (by simp [hm])]
end Go.Proofs.Ythoddglnfdmdeaa.P
set_option linter.unusedVariables false
set_option linter.unusedSimpArgs false
namespace Go.Proofs.Ythoddglnfdmdeaa.Pl
open Go.RowKit Go.Proofs.Ythoddglnfdmdeaa.P Go.Proofs.YthoddglnfdmdeaaW.PrintWords
/-- One byte rolled in: (high, low). -/
def stepR (s : Int × Int) (c : Int) : Int × Int := ((s.1 + (s.2 + c) % 65521) % 65521, (s.2 + c) % 65521)
def rollP (s : Int × Int) (l : List Int) : Int × Int := l.foldl stepR s
/-- A pair is within. -/
def InP (s : Int × Int) : Prop := 0 ≤ s.1 ∧ s.1 < 65521 ∧ 0 ≤ s.2 ∧ s.2 < 65521
theorem stepR_in {s : Int × Int} (c : Int) : InP (stepR s c) := by unfold InP stepR; simp only; omega
theorem rollP_in {s : Int × Int} (h : InP s) : ∀ l, InP (rollP s l) := by
  intro l
  induction l generalizing s with
  | nil => exact h
  | cons c l ih => exact ih (stepR_in c)
def num (s : Int × Int) : Int := s.1 * 65536 + s.2
theorem num_high {s : Int × Int} (h : InP s) : num s / 65536 = s.1 := by unfold num InP at *; omega
theorem num_low {s : Int × Int} (h : InP s) : num s % 65536 = s.2 := by unfold num InP at *; omega
theorem num_range {s : Int × Int} (h : InP s) : 0 ≤ num s ∧ num s ≤ 4294967295 := by unfold num InP at *; omega
theorem roll_l0 (s : ByteArray) (hs : s.size ≤ 140737488351232) (d : Nat) : ∀ (k i : Nat) (p : Int × Int), InP p → i ≤ s.size → s.size - i = d → d < k →
    sum_Roll.l0 k s p.1 p.2 (s.size : Int) (i : Int) = some (num (rollP p ((bs s).drop i))) := by
  induction d with
  | zero =>
    intro k i p hp h1 hd hk
    obtain ⟨k, rfl⟩ : ∃ m, k = m + 1 := ⟨k - 1, by omega⟩
    simp only [sum_Roll.l0]
    rw [if_neg (by omega), List.drop_of_length_le (by rw [bs_length]; omega)]
    unfold InP at hp
    rw [w64 (x := p.1 * 65536) (by omega) (by omega), w64 (by omega) (by omega)]
    rfl
  | succ d ih =>
    intro k i p hp h1 hd hk
    obtain ⟨k, rfl⟩ : ∃ m, k = m + 1 := ⟨k - 1, by omega⟩
    have hb := bt_range s (i : Int)
    simp only [sum_Roll.l0]
    rw [if_pos (by omega), if_pos (by omega), if_pos (by omega), bs_drop s i (by omega)]
    have hp' := hp
    unfold InP at hp'
    rw [w64 (x := bt s i) (by omega) (by omega), w64 (x := p.2 + bt s i) (by omega) (by omega), tmod_pos (x := p.2 + bt s i) (by omega), w64 (x := p.1 + _) (by omega) (by omega), tmod_pos (by omega), w64 (x := (i : Int) + 1) (by omega) (by omega)]
    have := ih k (i + 1) (stepR p (bt s i)) (stepR_in _) (by omega) (by omega) (by omega)
    exact this
/-- What Roll comes to at any number. -/
def rollSpec (n : Int) (l : List Int) : Int := if 0 ≤ n ∧ n / 65536 < 65521 ∧ n % 65536 < 65521 then num (rollP (n / 65536, n % 65536) l) else 0
theorem halves_spec (n : Int) (h1 : -9223372036854775808 ≤ n) (h2 : n ≤ 9223372036854775807) : ∃ a b, sum_halves.f n = some (a, b, decide (0 ≤ n ∧ n / 65536 < 65521 ∧ n % 65536 < 65521)) ∧ (0 ≤ n → a = n / 65536 ∧ b = n % 65536) := by
  refine ⟨wrap64 (Int.tdiv n 65536), Int.tmod n 65536, ?_, ?_⟩
  · unfold sum_halves.f
    by_cases h0 : 0 ≤ n
    · rw [if_pos h0, tdiv_pos h0, tmod_pos h0, w64 (by omega) (by omega)]
      by_cases h3 : n / 65536 < 65521
      · rw [if_pos h3]; simp [h0, h3]
      · rw [if_neg h3]; simp [h3]
    · rw [if_neg (by omega)]
      simp [h0]
  · intro h0
    rw [tdiv_pos h0, tmod_pos h0, w64 (by omega) (by omega)]
    exact ⟨rfl, rfl⟩
theorem roll_spec (n : Int) (s : ByteArray) (h1 : -9223372036854775808 ≤ n) (h2 : n ≤ 9223372036854775807) (hs : s.size ≤ 140737488351232) (k : Nat) (hk : s.size < k) :
    sum_Roll.f k n s = some (rollSpec n (bs s)) := by
  obtain ⟨a, b, e, hab⟩ := halves_spec n h1 h2
  unfold sum_Roll.f
  rw [e]
  simp only [Option.bind_some]
  by_cases hc : 0 ≤ n ∧ n / 65536 < 65521 ∧ n % 65536 < 65521
  · rw [if_pos (by simpa using hc)]
    obtain ⟨rfl, rfl⟩ := hab hc.1
    have := roll_l0 s hs s.size k 0 (n / 65536, n % 65536) (by unfold InP; simp only; omega) (by omega) (by omega) hk
    simp only [List.drop_zero] at this
    rw [rollSpec, if_pos hc]
    exact this
  · rw [if_neg (by simpa using hc), rollSpec, if_neg hc]
theorem is_spec (n : Int) (h1 : -9223372036854775808 ≤ n) (h2 : n ≤ 9223372036854775807) : armadaref02_Is.f n = some (decide (0 ≤ n ∧ n / 65536 < 65521 ∧ n % 65536 < 65521)) := by
  unfold armadaref02_Is.f
  by_cases h0 : 0 ≤ n
  · rw [if_pos h0, tdiv_pos h0, tmod_pos h0, w64 (by omega) (by omega)]
    by_cases h3 : n / 65536 < 65521
    · rw [if_pos (by omega)]
      have e : (n % 65536 ≤ 65520) ↔ (n % 65536 < 65521) := by omega
      simp [h0, h3, e]
    · rw [if_neg (by omega)]; simp [h3]
  · rw [if_neg (by omega)]
    simp [h0]
/-- The sum of bytes. -/
def ofP (l : List Int) : Int × Int := rollP (0, 1) l
theorem ofP_in (l : List Int) : InP (ofP l) := rollP_in (by unfold InP; simp only; omega) l
theorem of_spec (s : ByteArray) (hs : s.size ≤ 140737488351232) (k : Nat) (hk : s.size < k) : sum_Of.f k s = some (num (ofP (bs s))) := by
  unfold sum_Of.f
  rw [roll_spec 1 s (by omega) (by omega) hs k hk]
  simp only [Option.bind_some]
  rfl
end Go.Proofs.Ythoddglnfdmdeaa.Pl
set_option linter.unusedVariables false
set_option linter.unusedSimpArgs false
namespace Go.Proofs.Ythoddglnfdmdeaa.Op
open Go.RowKit Go.Deep Go.ChangeShapes Go.WideShapes Go.Proofs.YthoddglnfdmdeaaW.PrintWords Go.Proofs.YthoddglnfdmdeaaW.PrintLast Go.Proofs.YthoddglnfdmdeaaW.PrintMore
/-- No row and no text in it weighs more than what can be reached. -/
def Light {H : Type} (P : Program) (t : TypeId) (d : DataW H) : Prop := ∀ n ∈ d.weights P t, n ≤ reachBytes
theorem Light.each {H : Type} {P : Program} : ∀ {ts : List TypeId} {ds : List (DataW H)}, (∀ n ∈ DataW.weightsEach P ts ds, n ≤ reachBytes) → ∀ (j : Nat) {t : TypeId} {d : DataW H}, ts[j]? = some t → ds[j]? = some d → Light P t d :=
  fun h _ _ _ ht hd n hn => h n (DataW.weights_mem_each ht hd n hn)
theorem Light.all {H : Type} {P : Program} {e : TypeId} : ∀ {ds : List (DataW H)}, (∀ n ∈ DataW.weightsAll P e ds, n ≤ reachBytes) → ∀ (j : Nat) {d : DataW H}, ds[j]? = some d → Light P e d
  | [], _, j, d, hd => by simp at hd
  | x :: r, h, 0, d, hd => by
    obtain rfl : x = d := by simpa using hd
    intro n hn
    exact h n (by simp only [DataW.weightsAll, List.mem_append]; exact .inl hn)
  | x :: r, h, j + 1, d, hd => Light.all (ds := r) (fun n hn => h n (by simp only [DataW.weightsAll, List.mem_append]; exact .inr hn)) j (by simpa using hd)
theorem Light.arg {H : Type} {P : Program} {ts : List TypeId} {ds : List (DataW H)} (h : (DataW.weightsEach P ts ds).all (· ≤ reachBytes) = true) (j : Nat) {t : TypeId} {d : DataW H} (ht : ts[j]? = some t) (hd : ds[j]? = some d) : Light P t d :=
  Light.each (fun n hn => of_decide_eq_true (List.all_eq_true.1 h n hn)) j ht hd
/-- How cells of a type read. -/
structure Cdc (P : Program) (t : TypeId) (α : Type) where
  sz : Nat
  K : World → α → List Value → Prop
  hsz : P.cellsOf t = sz
  len : ∀ {w a cs}, K w a cs → cs.length = sz
  opens : ∀ {H : Type} {enc : TypeId × Value → H} {w : World} {base : Nat} {spare : Nat → Bool} {held : Bool} {fuel : Nat} {cs : List Value} {x : DataW H × List MemPlace},
    DataW.trod enc P w base spare held fuel t cs = some x → Light P t x.1 → ∃ a, K w a cs
def Cdc.int {P : Program} {t : TypeId} {k : IntKind} (ht : P.underlying t = some (.int k)) (hc : P.cellsOf t = 1) : Cdc P t Int where
  sz := 1
  K := fun _ a cs => cs = [.int k a] ∧ (Lit.int k a).wf = true
  hsz := hc
  len := fun h => by rw [h.1]; rfl
  opens := fun h _ => by
    obtain ⟨n, h1, _, h2⟩ := DataW.trod_int ht h
    exact ⟨n, h1, h2⟩
def Cdc.bool {P : Program} {t : TypeId} (ht : P.underlying t = some .bool) (hc : P.cellsOf t = 1) : Cdc P t Bool where
  sz := 1
  K := fun _ a cs => cs = [.bool a]
  hsz := hc
  len := fun h => by rw [h]; rfl
  opens := fun h _ => by
    obtain ⟨n, h1, _⟩ := DataW.trod_bool ht h
    exact ⟨n, h1⟩
def Cdc.str {P : Program} {t : TypeId} (ht : P.underlying t = some .string) (hc : P.cellsOf t = 1) : Cdc P t ByteArray where
  sz := 1
  K := fun _ a cs => cs = [.string a] ∧ a.size ≤ 140737488351232
  hsz := hc
  len := fun h => by rw [h.1]; rfl
  opens := fun h hw => by
    obtain ⟨n, h1, h3, h2⟩ := DataW.trod_string ht h
    subst h3
    have := hw n.data.toList.length (by simp [DataW.weights])
    rw [Array.length_toList] at this
    exact ⟨n, h1, this⟩
def Cdc.slice {P : Program} {t te : TypeId} {α : Type} (ht : P.underlying t = some (.slice te)) (hc : P.cellsOf t = 1) (e : Cdc P te α) : Cdc P t (Option Addr × Nat × List α) where
  sz := 1
  K := fun w a cs => cs = [.slice a.1 a.2.2.length a.2.1] ∧ a.2.2.length ≤ a.2.1 ∧ ReadsRow (e.K w) e.sz w a.1 a.2.2.length a.2.2
  hsz := hc
  len := fun h => by rw [h.1]; rfl
  opens := fun {H enc w base spare held fuel cs x} h hw => by
    rcases DataW.trod_slice ht h with ⟨rfl, _⟩ | ⟨a, len, cap, elems, rest, n, _, rfl, hx, hb, hl, hm, hlen, hel, _, _⟩
    · exact ⟨(none, 0, []), rfl, Nat.le_refl _, rfl, Nat.zero_le _, fun h => by cases h⟩
    · subst hx
      have hwe : ∀ n ∈ DataW.weightsAll P te (elems.map (·.1)), n ≤ reachBytes := fun n hn => hw n (by simp only [DataW.weights, ht, List.mem_cons, List.mem_append]; exact .inr (.inl hn))
      have each : ∀ i, i < len → ∃ y, ∃ c, c.length = e.sz ∧ e.K w y c ∧ ∀ j u, c[j]? = some u → w.cell? (a.add (i * e.sz + j)) = some u := by
        intro i hi
        have h1 := hel i hi
        have hi' : i < elems.length := by omega
        rw [List.getElem?_eq_getElem hi', Option.bind_eq_some_iff] at h1
        obtain ⟨c, hcs, hy⟩ := h1
        obtain ⟨_, hcl, hat⟩ := World.cells?_some hcs
        obtain ⟨y, hK⟩ := e.opens hy (Light.all hwe i (by rw [List.getElem?_map, List.getElem?_eq_getElem hi']; rfl))
        refine ⟨y, c, e.len hK, hK, fun j u hu => ?_⟩
        have hj : j < c.length := (List.getElem?_eq_some_iff.1 hu).1
        rw [← Deep.add_add, ← e.hsz, hat j (by omega), hu]
      have big : ∀ m, m ≤ len → ∃ l : List α, l.length = m ∧ ∀ i p, l[i]? = some p → ∃ c, c.length = e.sz ∧ e.K w p c ∧ ∀ j u, c[j]? = some u → w.cell? (a.add (i * e.sz + j)) = some u := by
        intro m
        induction m with
        | zero => intro _; exact ⟨[], rfl, fun i p h => by simp at h⟩
        | succ m ih =>
          intro hm2
          obtain ⟨l, h1, h2⟩ := ih (by omega)
          obtain ⟨y, hy⟩ := each m (by omega)
          refine ⟨l ++ [y], by simp [h1], fun i p hp => ?_⟩
          rcases Nat.lt_or_ge i l.length with hi | hi
          · rw [List.getElem?_append_left hi] at hp
            exact h2 i p hp
          · have hi2 : i = m := by
              have := (List.getElem?_eq_some_iff.1 hp).1
              rw [List.length_append, List.length_singleton] at this
              omega
            subst hi2
            rw [List.getElem?_append_right (by omega)] at hp
            have : y = p := by simpa [h1] using hp
            subst this
            exact hy
      obtain ⟨l, h1, h2⟩ := big len (Nat.le_refl _)
      subst h1
      exact ⟨(some a, cap, l), rfl, hl, rfl, by unfold maxLen at hm; show l.length ≤ _; omega, fun _ => ⟨a, rfl, h2⟩⟩
/-- The fields of a struct, from an offset on. -/
structure Fl (P : Program) (fs : List Field) (off : Nat) (α : Type) where
  sz : Nat
  K : World → α → List Value → Prop
  len : ∀ {w a cs}, K w a cs → cs.length = sz
  opens : ∀ {H : Type} {enc : TypeId × Value → H} {w : World} {base : Nat} {spare : Nat → Bool} {held : Bool} {n : Nat} {cs : List Value} {xs : List (DataW H × List MemPlace)}, xs.length = fs.length → cs.length = off + sz → (∀ n ∈ DataW.weightsEach P (fs.map (·.type)) (xs.map (·.1)), n ≤ reachBytes) →
    (∀ (i : Nat) (f : Field), fs[i]? = some f → DataW.trod enc P w base spare held n f.type ((cs.drop f.offset).take (P.cellsOf f.type)) = xs[i]?) → ∃ a, K w a (cs.drop off)
def Fl.nil {P : Program} {off : Nat} : Fl P [] off Unit where
  sz := 0
  K := fun _ _ cs => cs = []
  len := fun h => by rw [h]; rfl
  opens := fun _ h _ _ => ⟨(), by rw [List.drop_eq_nil_iff]; omega⟩
def Fl.cons {P : Program} {f : Field} {fs : List Field} {off : Nat} {α β : Type} (c : Cdc P f.type α) (ho : f.offset = off) (r : Fl P fs (off + c.sz) β) : Fl P (f :: fs) off (α × β) where
  sz := c.sz + r.sz
  K := fun w a cs => ∃ c0 c1, cs = c0 ++ c1 ∧ c.K w a.1 c0 ∧ r.K w a.2 c1
  len := fun ⟨c0, c1, h, h0, h1⟩ => by rw [h, List.length_append, c.len h0, r.len h1]
  opens := fun {H enc w base spare held n cs xs} hx hl hw h => by
    match xs, hx with
    | x :: xs, hx =>
      simp only [List.map_cons, DataW.weightsEach, List.mem_append] at hw
      have h0 := h 0 f rfl
      rw [List.getElem?_cons_zero] at h0
      obtain ⟨a, ha⟩ := c.opens h0 (fun n hn => hw n (.inl hn))
      obtain ⟨b, hb⟩ := r.opens (cs := cs) (xs := xs) (by simpa using hx) (by omega) (fun n hn => hw n (.inr hn)) (fun i g hg => by simpa using h (i + 1) g (by simpa using hg))
      refine ⟨(a, b), _, _, ?_, ha, hb⟩
      rw [c.hsz, ho, ← List.drop_drop, List.take_append_drop]
def Cdc.struct {P : Program} {t : TypeId} {α : Type} {fs : Array Field} (ht : P.underlying t = some (.struct fs)) (r : Fl P fs.toList 0 α) (hc : P.cellsOf t = r.sz) : Cdc P t α where
  sz := r.sz
  K := r.K
  hsz := hc
  len := r.len
  opens := fun {H enc w base spare held fuel cs x} h hw => by
    obtain ⟨xs, n, _, hx, hl, hxl, hf⟩ := DataW.trod_struct ht h
    subst hx
    obtain ⟨a, ha⟩ := r.opens (xs := xs) (by simpa using hxl) (by omega) (fun n hn => hw n (by simp only [DataW.weights, ht]; exact hn)) (fun i f hi => hf i f (by simpa using hi))
    exact ⟨a, by simpa using ha⟩
/-- An array, as a list of its length. -/
def Cdc.array {P : Program} {t te : TypeId} {α : Type} {n : Nat} (ht : P.underlying t = some (.array n te)) (e : Cdc P te α) (h1 : e.sz = 1) (hc : P.cellsOf t = n) : Cdc P t (List α) where
  sz := n
  K := fun w a cs => cs.length = n ∧ a.length = n ∧ ∀ (i : Nat) (x : α), a[i]? = some x → ∃ u, cs[i]? = some u ∧ e.K w x [u]
  hsz := hc
  len := fun h => h.1
  opens := fun {H enc w base spare held fuel cs x} h hw => by
    obtain ⟨xs, m, _, hx, hl, hxl, hf⟩ := DataW.trod_array ht h
    subst hx
    have hwe : ∀ n ∈ DataW.weightsAll P te (xs.map (·.1)), n ≤ reachBytes := fun n hn => hw n (by simp only [DataW.weights, ht]; exact hn)
    rw [hc] at hl
    have each : ∀ i, i < n → ∃ x u, cs[i]? = some u ∧ e.K w x [u] := by
      intro i hi
      have h2 := hf i hi
      rw [List.getElem?_eq_getElem (show i < xs.length by omega), e.hsz, h1, Nat.mul_one, List.drop_eq_getElem_cons (show i < cs.length by omega)] at h2
      rw [List.take_succ_cons, List.take_zero] at h2
      obtain ⟨a, ha⟩ := e.opens h2 (Light.all hwe i (by rw [List.getElem?_map, List.getElem?_eq_getElem (show i < xs.length by omega)]; rfl))
      exact ⟨a, _, List.getElem?_eq_getElem (by omega), ha⟩
    have big : ∀ m, m ≤ n → ∃ l : List α, l.length = m ∧ ∀ (i : Nat) (x : α), l[i]? = some x → ∃ u, cs[i]? = some u ∧ e.K w x [u] := by
      intro m
      induction m with
      | zero => intro _; exact ⟨[], rfl, fun i p h => by simp at h⟩
      | succ m ih =>
        intro hm2
        obtain ⟨l, h3, h4⟩ := ih (by omega)
        obtain ⟨y, hy⟩ := each m (by omega)
        refine ⟨l ++ [y], by simp [h3], fun i p hp => ?_⟩
        rcases Nat.lt_or_ge i l.length with hi | hi
        · rw [List.getElem?_append_left hi] at hp
          exact h4 i p hp
        · have hi2 : i = m := by
            have := (List.getElem?_eq_some_iff.1 hp).1
            rw [List.length_append, List.length_singleton] at this
            omega
          subst hi2
          rw [List.getElem?_append_right (by omega)] at hp
          have : y = p := by simpa [h3] using hp
          subst this
          exact hy
    obtain ⟨l, h3, h4⟩ := big n (Nat.le_refl _)
    exact ⟨l, hl, h3, h4⟩
/-- The same cells, read as another kind of thing. -/
def Cdc.map {P : Program} {t : TypeId} {α β : Type} (e : Cdc P t α) (f : α → β) : Cdc P t β where
  sz := e.sz
  K := fun w b cs => ∃ a, b = f a ∧ e.K w a cs
  hsz := e.hsz
  len := fun ⟨_, _, h⟩ => e.len h
  opens := fun h hw => by
    obtain ⟨a, ha⟩ := e.opens h hw
    exact ⟨f a, a, rfl, ha⟩
theorem row_len {α : Type} {R : α → List Value → Prop} {size : Nat} {w : World} {A : Option Addr} {n : Nat} {l : List α} (h : ReadsRow R size w A n l) : n ≤ 9223372036854775807 := h.2.1
theorem row_C {α : Type} {R R' : α → List Value → Prop} {size : Nat} {w : World} {A : Option Addr} {n : Nat} {l : List α} (h : ReadsRow R size w A n l) (hR : ∀ p c, R p c → R' p c) : ReadsRow R' size w A n l :=
  h.imp_ (Below.refl _ _) hR
/-- A struct by value. -/
theorem open_struct {P : Program} {t : TypeId} {α : Type} {fs : Array Field} (c : Cdc P t α) (ht : P.underlying t = some (.struct fs)) {H : Type} {enc : TypeId × Value → H} {w : World} {base : Nat} {spare : Nat → Bool} {held : Bool} {r : Reach} {b0 : Nat} {v : Value} {d : DataW H} {p : List MemPlace}
    (hv : Value.okWide P w r b0 t v) (h : DataW.Trod enc P w base spare held t v d p) (hw : Light P t d) : ∃ (a : α) (cs : List Value), v = .agg ⟨cs⟩ ∧ c.K w a cs := by
  obtain ⟨cs, rfl, hsz⟩ := okWide_struct ht hv
  obtain ⟨fuel, hf⟩ := h
  obtain ⟨a, ha⟩ := c.opens hf hw
  exact ⟨a, cs.toList, rfl, ha⟩
theorem lt_of_trod {P : Program} {t : TypeId} {H : Type} {enc : TypeId × Value → H} {w : World} {base : Nat} {spare : Nat → Bool} {held : Bool} {v : Value} {d : DataW H} {p : List MemPlace}
    (h : DataW.Trod enc P w base spare held t v d p) : ∀ x ∈ p, x.block < w.heap.size := by
  obtain ⟨m, hm⟩ := h
  exact DataW.trod_lt m _ _ _ hm
end Go.Proofs.Ythoddglnfdmdeaa.Op
set_option linter.unusedVariables false
set_option linter.unusedSimpArgs false
namespace Go.Proofs.Ythoddglnfdmdeaa.Pl
set_option linter.unusedSimpArgs false
open Go.RowKit Go.Proofs.Ythoddglnfdmdeaa.P Go.Proofs.YthoddglnfdmdeaaW.PrintWords Go.Proofs.YthoddglnfdmdeaaW.PrintLast Go.Proofs.YthoddglnfdmdeaaW.PrintMore
def okSum (e : Int) : Prop := 0 ≤ e ∧ e / 65536 < 65521 ∧ e % 65536 < 65521
instance (e : Int) : Decidable (okSum e) := by unfold okSum; infer_instance
def mayP (a b c d e : Int) : Prop := (1 ≤ a ∧ a ≤ 2) ∧ (0 ≤ b ∧ b ≤ 1073741824) ∧ (0 ≤ c ∧ c ≤ 65535) ∧ (0 ≤ d ∧ d ≤ 4096) ∧ okSum e
instance (a b c d e : Int) : Decidable (mayP a b c d e) := by unfold mayP; infer_instance
/-- A number of 64 bits. -/
def I64 (e : Int) : Prop := -9223372036854775808 ≤ e ∧ e ≤ 9223372036854775807
theorem in_spec (a b c : Int) : rec_in.f a b c = some (decide (b ≤ a ∧ a ≤ c)) := by
  unfold rec_in.f
  by_cases h : a ≥ b
  · rw [if_pos h]; congr 1; exact decide_eq_decide.2 ⟨fun x => ⟨h, x⟩, fun x => x.2⟩
  · rw [if_neg h]; congr 1; symm; exact decide_eq_false (fun x => h x.1)
theorem rollNil (e : Int) : rollSpec e [] = if okSum e then e else 0 := by
  unfold rollSpec
  by_cases h : okSum e
  · rw [if_pos h]
    have h' : 0 ≤ e ∧ e / 65536 < 65521 ∧ e % 65536 < 65521 := h
    rw [if_pos h']; show e / 65536 * 65536 + e % 65536 = e; omega
  · rw [if_neg h]
    have h' : ¬ (0 ≤ e ∧ e / 65536 < 65521 ∧ e % 65536 < 65521) := h
    rw [if_neg h']
theorem may_spec (a b c d e : Int) (he : I64 e) (k : Nat) (hk : 0 < k) : rec_Head_may.f k a b c d e = some (decide (mayP a b c d e)) := by
  unfold rec_Head_may.f
  rw [in_spec, in_spec, in_spec, in_spec]
  simp only [Option.bind_some]
  unfold mayP
  by_cases h1 : 1 ≤ a ∧ a ≤ 2
  · rw [if_pos (decide_eq_true h1)]
    by_cases h2 : 0 ≤ b ∧ b ≤ 1073741824
    · rw [if_pos (decide_eq_true h2)]
      by_cases h3 : 0 ≤ c ∧ c ≤ 65535
      · rw [if_pos (decide_eq_true h3)]
        by_cases h4 : 0 ≤ d ∧ d ≤ 4096
        · rw [if_pos (decide_eq_true h4)]
          by_cases h5 : e = 0
          · rw [if_pos h5]; congr 1; symm; exact decide_eq_true ⟨h1, h2, h3, h4, by subst h5; decide⟩
          · rw [if_neg h5, roll_spec e ⟨#[]⟩ he.1 he.2 (by show (0 : Nat) ≤ _; omega) k hk, show bs (⟨#[]⟩ : ByteArray) = [] from rfl, rollNil]
            simp only [Option.bind_some]
            congr 1
            by_cases h6 : okSum e
            · rw [if_pos h6]; simp [h1, h2, h3, h4, h6]
            · rw [if_neg h6]
              have : ¬ (0 = e) := fun x => h5 x.symm
              simp [h6, this]
        · rw [if_neg (by simpa using h4)]; congr 1; symm; exact decide_eq_false (fun x => h4 x.2.2.2.1)
      · rw [if_neg (by simpa using h3)]; congr 1; symm; exact decide_eq_false (fun x => h3 x.2.2.1)
    · rw [if_neg (by simpa using h2)]; congr 1; symm; exact decide_eq_false (fun x => h2 x.2.1)
  · rw [if_neg (by simpa using h1)]; congr 1; symm; exact decide_eq_false (fun x => h1 x.1)
def fourL (n : Int) : List Int := [n / 16777216 % 256, n / 65536 % 256, n / 256 % 256, n % 256]
def headL (a b c d e : Int) : List Int := 72 :: a % 256 :: (fourL b ++ fourL c ++ fourL d ++ fourL e ++ List.replicate 14 0)
def headT (a b c d e : Int) : ByteArray := strOfNums (headL a b c d e)
theorem fourL_range (n : Int) : ∀ x ∈ fourL n, 0 ≤ x ∧ x ≤ 255 := by
  intro x hx
  simp only [fourL, List.mem_cons, List.not_mem_nil, or_false] at hx
  omega
theorem headL_range (a b c d e : Int) : ∀ x ∈ headL a b c d e, 0 ≤ x ∧ x ≤ 255 := by
  intro x hx
  simp only [headL, fourL, List.mem_cons, List.mem_append, List.mem_replicate, List.not_mem_nil, or_false] at hx
  omega
theorem bs_headT (a b c d e : Int) : bs (headT a b c d e) = headL a b c d e := bs_strOfNums _ (headL_range a b c d e)
theorem strOfNums_size (l : List Int) : (strOfNums l).size = l.length := by simp [strOfNums, ByteArray.size]
theorem headT_size (a b c d e : Int) : (headT a b c d e).size = 32 := by rw [← bs_length, bs_headT]; rfl
theorem bytes_spec (b c d e : Int) (k : Nat) (hk : 5 ≤ k) : rec_bytes.f k [b, c, d, e] = some (strOfNums (fourL b ++ fourL c ++ fourL d ++ fourL e)) := by
  obtain ⟨k, rfl⟩ : ∃ m, k = m + 5 := ⟨k - 5, by omega⟩
  have w1 : wrap64 (0 + 1) = 1 := w64 (by omega) (by omega)
  have w2 : wrap64 (1 + 1) = 2 := w64 (by omega) (by omega)
  have w3 : wrap64 (2 + 1) = 3 := w64 (by omega) (by omega)
  have w4 : wrap64 (3 + 1) = 4 := w64 (by omega) (by omega)
  unfold rec_bytes.f
  simp only [rec_bytes.l0, Option.bind_some, List.length_cons, List.length_nil, List.length_append, w1, w2, w3, w4, fourL]
  simp [rd]
theorem bs_zerosB (n : Nat) : bs (zerosB n) = List.replicate n 0 := by
  unfold bs zerosB
  simp
theorem filled_spec (s : ByteArray) (h : s.size ≤ 32) : rec_filled.f s = some (s ++ zerosB (32 - s.size)) := by unfold rec_filled.f; rw [if_pos h]
theorem Text_spec (a b c d e : Int) (he : I64 e) (k : Nat) (hk : 5 ≤ k) : rec_Head_Text.f k a b c d e = some (if mayP a b c d e then (headT a b c d e, true) else (⟨#[]⟩, false)) := by
  unfold rec_Head_Text.f
  rw [may_spec a b c d e he k (by omega), bytes_spec b c d e k hk]
  simp only [Option.bind_some]
  by_cases h : mayP a b c d e
  · rw [if_pos (decide_eq_true h), if_pos h, if_pos (by rw [strOfNums_size]; simp), if_pos (by rw [ByteArray.size_append, strOfNums_size, strOfNums_size]; simp [fourL, ByteArray.size])]
    have hz : (((⟨#[72]⟩ : ByteArray) ++ strOfNums [a % 256]) ++ strOfNums (fourL b ++ fourL c ++ fourL d ++ fourL e)).size = 18 := by
      rw [ByteArray.size_append, ByteArray.size_append, strOfNums_size, strOfNums_size]; simp [fourL, ByteArray.size]
    rw [filled_spec _ (by rw [hz]; omega), hz]
    simp only [Option.bind_some]
    congr 2
  · rw [if_neg (by simpa using h), if_neg h]
theorem four_spec (n : Int) (h : 0 ≤ n) (h2 : n ≤ 9223372036854775807) : armadaref03_four.f n = some (strOfNums (fourL n)) := by
  unfold armadaref03_four.f
  rw [tdiv_pos h, tdiv_pos h, tdiv_pos h, tmod_pos h, w64 (x := n / 16777216) (by omega) (by omega), w64 (x := n / 65536) (by omega) (by omega), w64 (x := n / 256) (by omega) (by omega), tmod_pos (x := n / 65536) (by omega), tmod_pos (x := n / 256) (by omega)]
  simp only [fourL, Int.emod_emod]
theorem fill_spec (d : Nat) : ∀ (k : Nat) (s : ByteArray), s.size ≤ 32 → 32 - s.size = d → d < k → armadaref03_fill.l0 k s = some (s ++ zerosB d) := by
  induction d with
  | zero =>
    intro k s h1 hd hk
    obtain ⟨k, rfl⟩ : ∃ m, k = m + 1 := ⟨k - 1, by omega⟩
    simp only [armadaref03_fill.l0]
    rw [if_neg (by omega)]
    congr 1
    apply bs_inj
    rw [bs_append, bs_zerosB]
    simp
  | succ d ih =>
    intro k s h1 hd hk
    obtain ⟨k, rfl⟩ : ∃ m, k = m + 1 := ⟨k - 1, by omega⟩
    have hz : (s ++ (⟨#[0]⟩ : ByteArray)).size = s.size + 1 := by rw [ByteArray.size_append]; rfl
    simp only [armadaref03_fill.l0]
    rw [if_pos (by omega), if_pos (by omega), ih k _ (by rw [hz]; omega) (by rw [hz]; omega) (by omega)]
    congr 1
    apply bs_inj
    rw [bs_append, bs_append, bs_append, bs_zerosB, bs_zerosB, show bs (⟨#[0]⟩ : ByteArray) = [0] from rfl, List.append_assoc]
    rfl
theorem fill_f (s : ByteArray) (h : s.size ≤ 32) (k : Nat) (hk : 33 ≤ k) : armadaref03_fill.f k s = some (s ++ zerosB (32 - s.size)) := fill_spec _ k s h rfl (by omega)
theorem size_1 : (⟨#[72]⟩ : ByteArray).size = 1 := rfl
theorem fourL_length (n : Int) : (fourL n).length = 4 := rfl
theorem refText_j1 (a b c d e : Int) (h : mayP a b c d e) (k : Nat) (hk : 34 ≤ k) : armadaref03_Text.j1 k false a b c d e = some (headT a b c d e, true) := by
  obtain ⟨k, rfl⟩ : ∃ m, k = m + 1 := ⟨k - 1, by omega⟩
  have h' := h
  unfold mayP okSum at h'
  simp only [armadaref03_Text.j1]
  rw [if_neg (by simp), four_spec b (by omega) (by omega), four_spec c (by omega) (by omega), four_spec d (by omega) (by omega), four_spec e (by omega) (by omega)]
  simp only [Option.bind_some, ByteArray.size_append, strOfNums_size, fourL_length, List.length_cons, List.length_nil, size_1]
  rw [if_pos (by omega), if_pos (by omega), if_pos (by omega), if_pos (by omega), if_pos (by omega)]
  rw [fill_f _ (by simp only [ByteArray.size_append, strOfNums_size, fourL_length, List.length_cons, List.length_nil, size_1]; omega) k (by omega)]
  simp only [Option.bind_some, ByteArray.size_append, strOfNums_size, fourL_length, List.length_cons, List.length_nil, size_1]
  congr 2
theorem refText_no (a b c d e : Int) (k : Nat) (hk : 0 < k) : armadaref03_Text.j1 k true a b c d e = some (⟨#[]⟩, false) := by
  obtain ⟨k, rfl⟩ : ∃ m, k = m + 1 := ⟨k - 1, by omega⟩
  rw [armadaref03_Text.j1, if_pos rfl]
theorem refText_spec (a b c d e : Int) (he : I64 e) (k : Nat) (hk : 35 ≤ k) : armadaref03_Text.f k a b c d e = some (if mayP a b c d e then (headT a b c d e, true) else (⟨#[]⟩, false)) := by
  have key : armadaref03_Text.f k a b c d e = armadaref03_Text.j0 k (decide (¬ (a = 1 ∨ a = 2))) a b c d e := by
    unfold armadaref03_Text.f
    by_cases h1 : a = 1
    · rw [if_pos h1]; congr 1; simp [h1]
    · rw [if_neg h1]; congr 1; simp [h1, bne, BEq.beq]
  rw [key]
  obtain ⟨k, rfl⟩ : ∃ m, k = m + 1 := ⟨k - 1, by omega⟩
  simp only [armadaref03_Text.j0]
  by_cases ha : a = 1 ∨ a = 2
  · rw [if_neg (by simp [ha])]
    rw [is_spec e he.1 he.2]
    simp only [Option.bind_some]
    by_cases hm : mayP a b c d e
    · have h' := hm
      unfold mayP okSum at h'
      rw [if_neg (by omega), if_neg (by omega), if_neg (by omega), if_neg (by omega), if_neg (by omega), if_neg (by omega), decide_eq_true (by omega), Bool.not_true, refText_j1 a b c d e hm k (by omega), if_pos hm]
    · rw [if_neg hm]
      have hn := refText_no a b c d e k (by omega)
      by_cases h1 : b < 0
      · rw [if_pos h1, hn]
      · rw [if_neg h1]
        by_cases h2 : b > 1073741824
        · rw [if_pos h2, hn]
        · rw [if_neg h2]
          by_cases h3 : c < 0
          · rw [if_pos h3, hn]
          · rw [if_neg h3]
            by_cases h4 : c > 65535
            · rw [if_pos h4, hn]
            · rw [if_neg h4]
              by_cases h5 : d < 0
              · rw [if_pos h5, hn]
              · rw [if_neg h5]
                by_cases h6 : d > 4096
                · rw [if_pos h6, hn]
                · rw [if_neg h6, decide_eq_false (by intro h7; exact hm ⟨by omega, by omega, by omega, by omega, h7⟩), Bool.not_false, hn]
  · rw [if_pos (by simpa using ha)]
    rw [if_neg (by unfold mayP; intro h; omega)]
def numAt (s : ByteArray) (i : Int) : Int := 16777216 * bt s i + 65536 * bt s (i + 1) + 256 * bt s (i + 2) + bt s (i + 3)
theorem numAt_range (s : ByteArray) (i : Int) : 0 ≤ numAt s i ∧ numAt s i ≤ 4294967295 := by
  have h0 := bt_range s i; have h1 := bt_range s (i + 1); have h2 := bt_range s (i + 2); have h3 := bt_range s (i + 3)
  unfold numAt; omega
theorem refNumber_spec (s : ByteArray) (i : Int) (h0 : 0 ≤ i) (h1 : i + 3 < s.size) (hs : s.size ≤ 140737488351232) : armadaref03_number.f s i = some (numAt s i) := by
  have b0 := bt_range s i; have b1 := bt_range s (i + 1); have b2 := bt_range s (i + 2); have b3 := bt_range s (i + 3)
  unfold armadaref03_number.f
  rw [w64 (x := i + 1) (by omega) (by omega), w64 (x := i + 2) (by omega) (by omega), w64 (x := i + 3) (by omega) (by omega),
    if_pos (by omega), if_pos (by omega), if_pos (by omega), if_pos (by omega), if_pos (by omega), if_pos (by omega), if_pos (by omega), if_pos (by omega),
    w64 (x := bt s i) (by omega) (by omega), w64 (x := bt s (i + 1)) (by omega) (by omega), w64 (x := bt s (i + 2)) (by omega) (by omega), w64 (x := bt s (i + 3)) (by omega) (by omega),
    w64 (x := 16777216 * bt s i) (by omega) (by omega), w64 (x := 65536 * bt s (i + 1)) (by omega) (by omega), w64 (x := 256 * bt s (i + 2)) (by omega) (by omega),
    w64 (x := 16777216 * bt s i + 65536 * bt s (i + 1)) (by omega) (by omega), w64 (x := 16777216 * bt s i + 65536 * bt s (i + 1) + 256 * bt s (i + 2)) (by omega) (by omega), w64 (by omega) (by omega)]
  rfl
theorem or_byte (x y : Int) (h0 : 0 ≤ x) (h1 : x < 281474976710656) (h2 : 0 ≤ y) (h3 : y ≤ 255) : Go.bits .or .i64 (wrap64 (x * 256)) (wrap64 y) = x * 256 + y := by
  rw [w64 (x := x * 256) (by omega) (by omega), w64 (x := y) (by omega) (by omega)]
  exact bits_join .i64 63 (by decide) (fun n h0 h1 => by rw [IntKind.wrap_i64]; omega) 8 (x * 256) y (by omega) (by omega) (by omega) h2 (by omega) (by omega)
theorem number_spec (s : ByteArray) (i : Int) (h0 : 0 ≤ i) (h1 : 2 + 4 * i + 3 < s.size) (hs : s.size ≤ 140737488351232) (k : Nat) (hk : 5 ≤ k) : rec_number.f k s i = some (numAt s (2 + 4 * i)) := by
  obtain ⟨k, rfl⟩ : ∃ m, k = m + 5 := ⟨k - 5, by omega⟩
  have b0 := bt_range s (2 + 4 * i); have b1 := bt_range s (2 + 4 * i + 1); have b2 := bt_range s (2 + 4 * i + 2); have b3 := bt_range s (2 + 4 * i + 3)
  have e0 : wrap64 (wrap64 (2 + wrap64 (4 * i)) + 0) = 2 + 4 * i := by rw [w64 (x := 4 * i) (by omega) (by omega), w64 (x := 2 + 4 * i) (by omega) (by omega), w64 (by omega) (by omega)]; omega
  have e1 : wrap64 (wrap64 (2 + wrap64 (4 * i)) + 1) = 2 + 4 * i + 1 := by rw [w64 (x := 4 * i) (by omega) (by omega), w64 (x := 2 + 4 * i) (by omega) (by omega), w64 (by omega) (by omega)]
  have e2 : wrap64 (wrap64 (2 + wrap64 (4 * i)) + 2) = 2 + 4 * i + 2 := by rw [w64 (x := 4 * i) (by omega) (by omega), w64 (x := 2 + 4 * i) (by omega) (by omega), w64 (by omega) (by omega)]
  have e3 : wrap64 (wrap64 (2 + wrap64 (4 * i)) + 3) = 2 + 4 * i + 3 := by rw [w64 (x := 4 * i) (by omega) (by omega), w64 (x := 2 + 4 * i) (by omega) (by omega), w64 (by omega) (by omega)]
  have w1 : wrap64 (0 + 1) = 1 := w64 (by omega) (by omega)
  have w2 : wrap64 (1 + 1) = 2 := w64 (by omega) (by omega)
  have w3 : wrap64 (2 + 1) = 3 := w64 (by omega) (by omega)
  have w4 : wrap64 (3 + 1) = 4 := w64 (by omega) (by omega)
  unfold rec_number.f
  simp only [rec_number.l0, e0, e1, e2, e3, w1, w2, w3, w4]
  rw [if_pos (by omega), if_pos (by omega), if_pos (by omega), if_pos (by omega), if_pos (by omega), if_pos (by omega), if_pos (by omega), if_pos (by omega), if_pos (by omega), if_pos (by omega), if_pos (by omega), if_pos (by omega), if_neg (by omega),
    or_byte 0 _ (by omega) (by omega) b0.1 b0.2, or_byte _ _ (by omega) (by omega) b1.1 b1.2, or_byte _ _ (by omega) (by omega) b2.1 b2.2, or_byte _ _ (by omega) (by omega) b3.1 b3.2]
  congr 1
  unfold numAt
  omega
/-- Is a text a head's? -/
def isHead (s : ByteArray) : Prop := s.size = 32 ∧ mayP (bt s 1) (numAt s 2) (numAt s 6) (numAt s 10) (numAt s 14) ∧ (headT (bt s 1) (numAt s 2) (numAt s 6) (numAt s 10) (numAt s 14)).toList = s.toList
instance (s : ByteArray) : Decidable (isHead s) := by unfold isHead; infer_instance
def readP (s : ByteArray) : Int × Int × Int × Int × Int × Bool := if isHead s then (bt s 1, numAt s 2, numAt s 6, numAt s 10, numAt s 14, true) else (0, 0, 0, 0, 0, false)
theorem wrap_bt (s : ByteArray) (i : Int) : wrap64 (bt s i) = bt s i := by have := bt_range s i; exact w64 (by omega) (by omega)
theorem I64_num (s : ByteArray) (i : Int) : I64 (numAt s i) := by have := numAt_range s i; unfold I64; omega
theorem Read_spec (s : ByteArray) (k : Nat) (hk : 5 ≤ k) : rec_Read.f k s = some (readP s) := by
  unfold rec_Read.f readP
  by_cases h : (s.size : Int) = 32
  · have hs : s.size = 32 := by omega
    rw [if_pos h, if_pos (by omega), number_spec s 0 (by omega) (by omega) (by omega) k hk, number_spec s 1 (by omega) (by omega) (by omega) k hk, number_spec s 2 (by omega) (by omega) (by omega) k hk, number_spec s 3 (by omega) (by omega) (by omega) k hk]
    simp only [Option.bind_some, wrap_bt]
    show (rec_Head_Text.f k (bt s 1) (numAt s 2) (numAt s 6) (numAt s 10) (numAt s 14)).bind _ = _
    rw [Text_spec _ _ _ _ _ (I64_num s 14) k hk]
    simp only [Option.bind_some]
    by_cases hm : mayP (bt s 1) (numAt s 2) (numAt s 6) (numAt s 10) (numAt s 14)
    · rw [if_pos hm, if_pos rfl]
      by_cases he : (headT (bt s 1) (numAt s 2) (numAt s 6) (numAt s 10) (numAt s 14)).toList = s.toList
      · rw [if_pos he, if_pos ⟨hs, hm, he⟩]; rfl
      · rw [if_neg he, if_neg (fun x => he x.2.2)]
    · rw [if_neg hm, if_neg (by simp), if_neg (fun x => hm x.2.1)]
  · rw [if_neg h, if_neg (fun x => h (by rw [x.1]; rfl))]
theorem refRead_spec (s : ByteArray) (k : Nat) (hk : 35 ≤ k) : armadaref03_Read.f k s = some (readP s) := by
  unfold armadaref03_Read.f readP
  by_cases h : (s.size : Int) = 32
  · have hs : s.size = 32 := by omega
    rw [if_pos h, if_pos (by omega), refNumber_spec s 2 (by omega) (by omega) (by omega), refNumber_spec s 6 (by omega) (by omega) (by omega), refNumber_spec s 10 (by omega) (by omega) (by omega), refNumber_spec s 14 (by omega) (by omega) (by omega)]
    simp only [Option.bind_some, wrap_bt]
    rw [refText_spec _ _ _ _ _ (I64_num s 14) k hk]
    simp only [Option.bind_some]
    by_cases hm : mayP (bt s 1) (numAt s 2) (numAt s 6) (numAt s 10) (numAt s 14)
    · rw [if_pos hm, if_pos rfl]
      by_cases he : (headT (bt s 1) (numAt s 2) (numAt s 6) (numAt s 10) (numAt s 14)).toList = s.toList
      · rw [if_pos he, if_pos ⟨hs, hm, he⟩]
      · rw [if_neg he, if_neg (fun x => he x.2.2)]
    · rw [if_neg hm, if_neg (by simp), if_neg (fun x => hm x.2.1)]
  · rw [if_neg h, if_neg (fun x => h (by rw [x.1]; rfl))]
theorem num_of_range (l : List Int) : I64 (num (ofP l)) := by have := num_range (ofP_in l); unfold I64; omega
def makeP (a b c : Int) (s : ByteArray) : Int × Int × Int × Int × Int × Bool := if mayP a b c (s.size : Int) (num (ofP (bs s))) then (a, b, c, (s.size : Int), num (ofP (bs s)), true) else (0, 0, 0, 0, 0, false)
theorem Make_spec (a b c : Int) (s : ByteArray) (hs : s.size ≤ 140737488351232) (k : Nat) (hk : s.size < k) : rec_Make.f k a b c s = some (makeP a b c s) := by
  unfold rec_Make.f makeP
  rw [of_spec s hs k hk]
  simp only [Option.bind_some]
  rw [may_spec a b c _ _ (num_of_range _) k (by omega)]
  simp only [Option.bind_some]
  by_cases hm : mayP a b c (s.size : Int) (num (ofP (bs s)))
  · rw [if_pos (decide_eq_true hm), if_pos hm]
  · rw [if_neg (by simpa using hm), if_neg hm]
end Go.Proofs.Ythoddglnfdmdeaa.Pl
set_option linter.unusedVariables false
set_option linter.unusedSimpArgs false
namespace Go.Proofs.Ythoddglnfdmdeaa.P
open Go.RowKit Go.Proofs.YthoddglnfdmdeaaW.PrintWords Go.Proofs.YthoddglnfdmdeaaW.PrintLast Go.Proofs.YthoddglnfdmdeaaW.PrintMore
theorem drop_nil_len {α : Type} {l : List α} {i : Nat} (h : l.drop i = []) (hi : i ≤ l.length) : i = l.length := by have := List.drop_eq_nil_iff.1 h; omega
def smallB (s : List ByteArray) (c : List S29) : Bool := s.all (fun x => decide (x.size ≤ 100) && decide (s.length ≤ 600)) && c.all (fun x => decide (x.f1.size ≤ 100) && decide (c.length ≤ 200))
theorem small_l1 (s : List ByteArray) (c : List S29) (hc : c.length ≤ 9223372036854775807) : ∀ (r : List S29) (i k : Nat), c.drop i = r → i ≤ c.length → r.length + 2 ≤ k →
    armadaref01_Small.l1 k (i : Int) s c = some (r.all (fun x => decide (x.f1.size ≤ 100) && decide (c.length ≤ 200)))
  | [], i, k, hr, hi, hk => by
    obtain ⟨k, rfl⟩ : ∃ k', k = k' + 1 := ⟨k - 1, by omega⟩
    have := drop_nil_len hr hi
    subst this
    rw [armadaref01_Small.l1, if_neg (by omega)]; rfl
  | x :: r, i, k, hr, hi, hk => by
    obtain ⟨k, rfl⟩ : ∃ k', k = k' + 1 := ⟨k - 1, by omega⟩
    obtain ⟨hx, hlt, hd⟩ := rdW_drop hr
    have hk' : r.length + 2 ≤ k := by rw [List.length_cons] at hk; omega
    rw [armadaref01_Small.l1, if_pos (by omega), if_pos (by omega), hx, wsucc i (by omega), small_l1 s c hc r (i + 1) k hd (by omega) hk', List.all_cons]
    by_cases h1 : x.f1.size ≤ 100
    · rw [if_neg (by omega), decide_eq_true h1]
      by_cases h2 : c.length ≤ 200
      · rw [if_neg (by omega), decide_eq_true h2]; simp
      · rw [if_pos (by omega), decide_eq_false h2]; simp
    · rw [if_pos (by omega), decide_eq_false h1]; simp
theorem small_l0 (s : List ByteArray) (c : List S29) (hs : s.length ≤ 9223372036854775807) (hc : c.length ≤ 9223372036854775807) : ∀ (r : List ByteArray) (i k : Nat), s.drop i = r → i ≤ s.length → r.length + c.length + 4 ≤ k →
    armadaref01_Small.l0 k (i : Int) s c = some (r.all (fun x => decide (x.size ≤ 100) && decide (s.length ≤ 600)) && c.all (fun x => decide (x.f1.size ≤ 100) && decide (c.length ≤ 200)))
  | [], i, k, hr, hi, hk => by
    obtain ⟨k, rfl⟩ : ∃ k', k = k' + 1 := ⟨k - 1, by omega⟩
    have := drop_nil_len hr hi
    subst this
    have h0 := small_l1 s c hc c 0 k rfl (Nat.zero_le _) (by simp at hk; omega)
    rw [Int.natCast_zero] at h0
    rw [armadaref01_Small.l0, if_neg (by omega), h0]; rfl
  | x :: r, i, k, hr, hi, hk => by
    obtain ⟨k, rfl⟩ : ∃ k', k = k' + 1 := ⟨k - 1, by omega⟩
    obtain ⟨hx, hlt, hd⟩ := rdOf_drop hr
    have hk' : r.length + c.length + 4 ≤ k := by rw [List.length_cons] at hk; omega
    rw [armadaref01_Small.l0, if_pos (by omega), if_pos (by omega), hx, wsucc i (by omega), small_l0 s c hs hc r (i + 1) k hd (by omega) hk', List.all_cons]
    by_cases h1 : x.size ≤ 100
    · rw [if_neg (by omega), decide_eq_true h1]
      by_cases h2 : s.length ≤ 600
      · rw [if_neg (by omega), decide_eq_true h2]; simp
      · rw [if_pos (by omega), decide_eq_false h2]; simp
    · rw [if_pos (by omega), decide_eq_false h1]; simp
theorem small_f (s : List ByteArray) (c : List S29) (hs : s.length ≤ 9223372036854775807) (hc : c.length ≤ 9223372036854775807) (k : Nat) (hk : s.length + c.length + 10 ≤ k) : armadaref01_Small.f k s c = some (smallB s c) := by
  have h0 := small_l0 s c hs hc s 0 k rfl (Nat.zero_le _) (by omega)
  rw [Int.natCast_zero] at h0
  exact h0
theorem smallB_lim {s : List ByteArray} {c : List S29} (h : smallB s c = true) : s.length ≤ 600 ∧ c.length ≤ 200 ∧ (∀ x ∈ s, x.size ≤ 100) ∧ ∀ x ∈ c, x.f1.size ≤ 100 := by
  unfold smallB at h
  simp only [Bool.and_eq_true, List.all_eq_true, decide_eq_true_eq] at h
  refine ⟨?_, ?_, fun x hx => (h.1 x hx).1, fun x hx => (h.2 x hx).1⟩
  · cases s with
    | nil => simp
    | cons x s => exact (h.1 x List.mem_cons_self).2
  · cases c with
    | nil => simp
    | cons x c => exact (h.2 x List.mem_cons_self).2
theorem rdA_drop {l : List S85} {i : Nat} {x : S85} {r : List S85} (h : l.drop i = x :: r) : rd_T85 l (i : Int) = x ∧ i < l.length ∧ l.drop (i + 1) = r := by
  have hi : i < l.length := by
    apply Nat.lt_of_not_le
    intro c
    rw [List.drop_eq_nil_iff.2 c] at h; cases h
  rw [List.drop_eq_getElem_cons hi] at h
  have h1 := (List.cons.inj h).1
  have h2 := (List.cons.inj h).2
  refine ⟨?_, hi, h2⟩
  unfold rd_T85
  rw [Int.toNat_natCast, List.getD_eq_getElem?_getD, List.getElem?_eq_getElem hi]
  exact h1
end Go.Proofs.Ythoddglnfdmdeaa.P
set_option linter.unusedVariables false
set_option linter.unusedSimpArgs false
namespace Go.Proofs.Ythoddglnfdmdeaa.Pl
set_option linter.unusedSimpArgs false
open Go.RowKit Go.Proofs.Ythoddglnfdmdeaa.P Go.Proofs.YthoddglnfdmdeaaW.PrintWords Go.Proofs.YthoddglnfdmdeaaW.PrintLast Go.Proofs.YthoddglnfdmdeaaW.PrintMore
def D1 : ByteArray := ⟨#[68]⟩
theorem D1_size : D1.size = 1 := rfl
def fillB (s : ByteArray) : ByteArray := s ++ zerosB (32 - s.size)
/-- The sector of a place of a payload. -/
def chunk (s : ByteArray) (i : Nat) : ByteArray := fillB (D1 ++ s.extract (31 * i) (31 * i + 31))
theorem part_size (s : ByteArray) (i : Nat) : (s.extract (31 * i) (31 * i + 31)).size = min 31 (s.size - 31 * i) := by rw [ByteArray.size_extract]; omega
def cutN (s : ByteArray) (n : Nat) : List ByteArray := (List.range n).map (chunk s)
theorem cutN_succ (s : ByteArray) (n : Nat) : cutN s (n + 1) = cutN s n ++ [chunk s n] := by unfold cutN; rw [List.range_succ, List.map_append]; rfl
theorem cutN_length (s : ByteArray) (n : Nat) : (cutN s n).length = n := by simp [cutN]
def cntN (n : Nat) : Nat := (n + 30) / 31
def cutP (s : ByteArray) : List ByteArray := if s.size ≤ 4096 then cutN s (cntN s.size) else []
theorem toList_nil (s : ByteArray) : s.toList = [] ↔ s.size = 0 := by
  rw [ByteArray.toList_eq]
  constructor
  · intro h
    have := congrArg List.length h
    simpa using this
  · intro h
    have : s.data.toList.length = 0 := by simpa using h
    exact List.eq_nil_of_length_eq_zero this
theorem mn_min (a b : Nat) : mn (a : Int) (b : Int) = ((min a b : Nat) : Int) := by unfold mn; split <;> omega
theorem ext_clamp (s : ByteArray) (a b : Nat) : s.extract a (min b s.size) = s.extract a b := by
  have h : s = s.extract 0 s.size := ByteArray.extract_zero_size.symm
  conv => rhs; rw [h, ByteArray.extract_extract]
  rw [Nat.zero_add, Nat.zero_add]
theorem cut_l0 (s : ByteArray) (hs : s.size ≤ 4096) (d : Nat) : ∀ (k i : Nat), cntN s.size - i = d → i ≤ cntN s.size → d < k → rec_Cut.l0 k (s.extract (31 * i) s.size) (cutN s i) = some (cutN s (cntN s.size)) := by
  induction d with
  | zero =>
    intro k i hd hi hk
    obtain ⟨k, rfl⟩ : ∃ m, k = m + 1 := ⟨k - 1, by omega⟩
    obtain rfl : i = cntN s.size := by omega
    rw [rec_Cut.l0, if_pos ((toList_nil _).2 (by rw [ByteArray.size_extract]; unfold cntN; omega))]
  | succ d ih =>
    intro k i hd hi hk
    obtain ⟨k, rfl⟩ : ∃ m, k = m + 1 := ⟨k - 1, by omega⟩
    have hlt : 31 * i < s.size := by unfold cntN at *; omega
    have hz : (s.extract (31 * i) s.size).size = s.size - 31 * i := by rw [ByteArray.size_extract]; omega
    have hm : mn 31 ((s.extract (31 * i) s.size).size : Int) = ((min 31 (s.size - 31 * i) : Nat) : Int) := by rw [hz]; exact mn_min 31 _
    have e1 : (s.extract (31 * i) s.size).extract 0 (min 31 (s.size - 31 * i)) = s.extract (31 * i) (31 * i + 31) := by
      rw [ByteArray.extract_extract, Nat.add_zero, ← ext_clamp s (31 * i) (31 * i + 31)]
      congr 1
      omega
    have e2 : (s.extract (31 * i) s.size).extract (min 31 (s.size - 31 * i)) (s.size - 31 * i) = s.extract (31 * (i + 1)) s.size := by
      rw [ByteArray.extract_extract]
      by_cases h : 31 ≤ s.size - 31 * i
      · congr 1 <;> omega
      · have a : (s.extract (31 * (i + 1)) s.size).size = 0 := by rw [ByteArray.size_extract]; omega
        have b : (s.extract (31 * i + min 31 (s.size - 31 * i)) (min (31 * i + (s.size - 31 * i)) s.size)).size = 0 := by rw [ByteArray.size_extract]; omega
        rw [ByteArray.size_eq_zero_iff.1 a, ByteArray.size_eq_zero_iff.1 b]
    rw [rec_Cut.l0, if_neg (fun h => by have := (toList_nil _).1 h; omega), hm, hz, if_pos (by omega), if_pos (by omega), Int.toNat_natCast, e1, e2, if_pos (by rw [part_size]; omega),
      filled_spec _ (by show (D1 ++ _).size ≤ 32; rw [ByteArray.size_append, D1_size, part_size]; omega)]
    rw [Option.bind_some, if_pos (by rw [cutN_length]; unfold cntN at *; omega)]
    rw [← ih k (i + 1) (by omega) (by omega) (by omega), cutN_succ]
    rfl
theorem Cut_spec (s : ByteArray) (k : Nat) (hk : 140 ≤ k) : rec_Cut.f k s = some (cutP s) := by
  unfold rec_Cut.f cutP
  by_cases h : (s.size : Int) > 4096
  · rw [if_pos h, if_neg (by omega)]
  · rw [if_neg h, if_pos (by omega)]
    have := cut_l0 s (by omega) (cntN s.size) k 0 (by omega) (by omega) (by unfold cntN; omega)
    rw [Nat.mul_zero, ByteArray.extract_zero_size] at this
    exact this
def cntP (n : Int) : Int := if 0 ≤ n ∧ n ≤ 4096 then (n + 30) / 31 else -1
theorem Count_spec (n : Int) : rec_Count.f n = some (cntP n) := by
  unfold rec_Count.f cntP
  rw [in_spec]
  simp only [Option.bind_some]
  by_cases h : 0 ≤ n ∧ n ≤ 4096
  · rw [if_pos (decide_eq_true h), if_pos h, w64 (x := n + 31) (by omega) (by omega), w64 (x := n + 31 - 1) (by omega) (by omega), tdiv_pos (by omega), w64 (by omega) (by omega)]
    congr 1
    omega
  · rw [if_neg (by simpa using h), if_neg h]
theorem toList_inj {a b : ByteArray} (h : a.toList = b.toList) : a = b := by
  rw [ByteArray.toList_eq, ByteArray.toList_eq] at h
  exact ByteArray.ext (Array.toList_inj.1 h)
theorem rdOf_get (l : List ByteArray) (i : Nat) (h : i < l.length) : rdOf ByteArray.empty l (i : Int) = l[i] := by
  unfold rdOf
  rw [Int.toNat_natCast, List.getD_eq_getElem?_getD, List.getElem?_eq_getElem h]
  rfl
theorem eq_l0 (a b : List ByteArray) (hl : a.length = b.length) (hm : a.length ≤ 9223372036854775807) (d : Nat) : ∀ (k i : Nat), a.length - i = d → i ≤ a.length → d < k →
    slices_Equal_string_string.l0 k a b (a.length : Int) (i : Int) = some (decide (a.drop i = b.drop i)) := by
  induction d with
  | zero =>
    intro k i hd hi hk
    obtain ⟨k, rfl⟩ : ∃ m, k = m + 1 := ⟨k - 1, by omega⟩
    rw [slices_Equal_string_string.l0, if_neg (by omega), List.drop_of_length_le (by omega), List.drop_of_length_le (by omega)]
    rfl
  | succ d ih =>
    intro k i hd hi hk
    obtain ⟨k, rfl⟩ : ∃ m, k = m + 1 := ⟨k - 1, by omega⟩
    have ha : i < a.length := by omega
    have hb : i < b.length := by omega
    rw [slices_Equal_string_string.l0, if_pos (by omega), if_pos (by omega), if_pos (by omega), if_pos (by omega), rdOf_get a i ha, rdOf_get b i hb, List.drop_eq_getElem_cons ha, List.drop_eq_getElem_cons hb]
    by_cases h : a[i] = b[i]
    · rw [if_pos (by rw [h]), w64 (by omega) (by omega)]
      refine (ih k (i + 1) (by omega) (by omega) (by omega)).trans ?_
      congr 1
      rw [decide_eq_decide]
      simp only [List.cons.injEq, h, true_and]
    · rw [if_neg (fun h2 => h (toList_inj h2))]
      congr 1
      symm
      apply decide_eq_false
      simp only [List.cons.injEq, h, false_and, not_false_eq_true]
theorem Equal_spec (a b : List ByteArray) (hm : a.length ≤ 9223372036854775807) (k : Nat) (hk : a.length < k) : slices_Equal_string_string.f k a b = some (decide (a = b)) := by
  unfold slices_Equal_string_string.f
  by_cases h : a.length = b.length
  · rw [if_pos (by omega)]
    have := eq_l0 a b h hm a.length k 0 (by omega) (by omega) hk
    simpa using this
  · rw [if_neg (by omega)]
    congr 1
    symm
    exact decide_eq_false (fun e => h (by rw [e]))
end Go.Proofs.Ythoddglnfdmdeaa.Pl
set_option linter.unusedVariables false
set_option linter.unusedSimpArgs false
namespace Go.Proofs.Ythoddglnfdmdeaa.P
open Go.RowKit Go.Proofs.YthoddglnfdmdeaaW.PrintWords Go.Proofs.YthoddglnfdmdeaaW.PrintLast Go.Proofs.YthoddglnfdmdeaaW.PrintMore
def stepZ (s : List ByteArray) (c : List S29) (x : S85) : List ByteArray × List S29 × Int := if x.f0 = true then flushZ s c else putZ s c x.f1 x.f2
/-- The acts, one behind the other; at the first error what was at the beginning. -/
def runL (s0 : List ByteArray) (c0 : List S29) : List S85 → List ByteArray → List S29 → List ByteArray × List S29 × Int
  | [], s, c => (s, c, 0)
  | x :: r, s, c => if (stepZ s c x).2.2 = 0 then runL s0 c0 r (stepZ s c x).1 (stepZ s c x).2.1 else (s0, c0, (stepZ s c x).2.2)
def runZ (s : List ByteArray) (c : List S29) (l : List S85) : List ByteArray × List S29 × Int := if mayB s c = true then runL s c l s c else (s, c, 1)
theorem wrt_size (kb : Nat → Bool) : ∀ (r : List S29) (i : Nat) (row : List ByteArray), (∀ x ∈ row, x.size = 32) → (∀ x ∈ r, x.f1.size = 32) → ∀ x ∈ wrt kb i r row, x.size = 32
  | [], _, _, h, _ => h
  | y :: r, i, row, h, hr => by
    rw [wrt]
    refine wrt_size kb r (i + 1) _ ?_ (fun x hx => hr x (List.mem_cons_of_mem _ hx))
    intro x hx
    split at hx
    · rcases List.mem_or_eq_of_mem_set hx with h1 | h1
      · exact h x h1
      · rw [h1]; exact hr y List.mem_cons_self
    · exact h x hx
theorem mayB_mk {s : List ByteArray} {c : List S29} (h1 : 1 ≤ s.length) (h2 : s.length ≤ 512) (h3 : ∀ x ∈ s, x.size = 32) (h4 : ∀ x ∈ c, 0 ≤ x.f0 ∧ x.f0 < (s.length : Int) ∧ x.f1.size = 32) : mayB s c = true := by
  unfold mayB
  simp only [Bool.and_eq_true, decide_eq_true_eq, List.all_eq_true]
  exact ⟨h1, h2, fun x hx => by simpa [secB] using h3 x hx, fun x hx => by simpa [okW] using h4 x hx⟩
theorem mayB_wrt {s : List ByteArray} {c : List S29} (h : mayB s c = true) (kb : Nat → Bool) : mayB (wrt kb 0 c s) [] = true := by
  obtain ⟨h1, h2, h3⟩ := mayB_sec h
  refine mayB_mk (by rw [wrt_length]; exact h1) (by rw [wrt_length]; exact h2) (wrt_size kb c 0 s h3 (fun x hx => (mayB_wr h x hx).2.2)) (fun x hx => by cases hx)
theorem fil_size {x : ByteArray} (h : x.size ≤ 32) : (fil x).size = 32 := by
  unfold fil; rw [ByteArray.size_append, zerosB_size]; omega
theorem mayB_put {s : List ByteArray} {c : List S29} {a : Int} {x : ByteArray} (h : mayB s c = true) (ha : isB s a = true) (hx : x.size ≤ 32) : mayB s (c ++ [⟨a, fil x⟩]) = true := by
  obtain ⟨h1, h2, h3⟩ := mayB_sec h
  refine mayB_mk h1 h2 h3 ?_
  intro y hy
  rcases List.mem_append.1 hy with h4 | h4
  · exact mayB_wr h y h4
  · obtain rfl := List.mem_singleton.1 h4
    unfold isB at ha
    simp only [Bool.and_eq_true, decide_eq_true_eq] at ha
    exact ⟨ha.1, ha.2, fil_size hx⟩
/-- Behind an act without an error a disk may be, with no more sectors, and at most one write more. -/
theorem step_may {s : List ByteArray} {c : List S29} (x : S85) (h : mayB s c = true) (he : (stepZ s c x).2.2 = 0) : mayB (stepZ s c x).1 (stepZ s c x).2.1 = true ∧ (stepZ s c x).1.length = s.length ∧ (stepZ s c x).2.1.length ≤ c.length + 1 := by
  unfold stepZ at he ⊢
  by_cases hf : x.f0 = true
  · rw [if_pos hf] at he ⊢
    unfold flushZ
    rw [if_pos h]
    exact ⟨mayB_wrt h _, wrt_length _ _ _ _, Nat.zero_le _⟩
  · rw [if_neg hf] at he ⊢
    unfold putZ at he ⊢
    rw [h, Bool.true_and] at he ⊢
    by_cases hi : isB s x.f1 = true
    · rw [if_pos hi] at he ⊢
      by_cases hx : x.f2.size ≤ 32
      · rw [if_pos hx]
        exact ⟨mayB_put h hi hx, rfl, by simp⟩
      · rw [if_neg hx] at he; exact absurd he (by simp)
    · rw [if_neg hi] at he; exact absurd he (by simp)
theorem run_l0 (y : List S85) (s0 : List ByteArray) (c0 : List S29) (hy : y.length ≤ 100000) : ∀ (r : List S85) (i k : Nat) (s : List ByteArray) (c : List S29), y.drop i = r → i ≤ y.length → s.length ≤ 1000 → c.length + r.length ≤ 100000 → r.length + s.length + c.length + r.length + 20 ≤ k → mayB s c = true →
    disk_Run.l0 k y (y.length : Int) (i : Int) s0 c0 s c = some (runL s0 c0 r s c)
  | [], i, k, s, c, hr, hi, hs, hc, hk, hm => by
    obtain ⟨k, rfl⟩ : ∃ k', k = k' + 1 := ⟨k - 1, by omega⟩
    have := drop_nil_len hr hi
    subst this
    rw [disk_Run.l0, if_neg (by omega)]; rfl
  | x :: r, i, k, s, c, hr, hi, hs, hc, hk, hm => by
    obtain ⟨k, rfl⟩ : ∃ k', k = k' + 1 := ⟨k - 1, by omega⟩
    obtain ⟨hx, hlt, hd⟩ := rdA_drop hr
    rw [List.length_cons] at hk hc
    rw [disk_Run.l0, if_pos (by omega), if_pos (by omega), if_pos (by omega), hx, wsucc i (by omega), runL]
    have go : ∀ z, stepZ s c x = z → (if z.2.2 = 0 then disk_Run.l0 k y (y.length : Int) ((i + 1 : Nat) : Int) s0 c0 z.1 z.2.1 else some (s0, c0, z.2.2)) = some (if z.2.2 = 0 then runL s0 c0 r z.1 z.2.1 else (s0, c0, z.2.2)) := by
      rintro z rfl
      by_cases he : (stepZ s c x).2.2 = 0
      · obtain ⟨g1, g2, g3⟩ := step_may x hm he
        rw [if_pos he, if_pos he]
        exact run_l0 y s0 c0 hy r (i + 1) k _ _ hd (by omega) (by omega) (by omega) (by omega) g1
      · rw [if_neg he, if_neg he]
    by_cases hf : x.f0 = true
    · rw [if_pos hf, flush_f]
      simp only [Option.bind_some]
      rw [show flushZ s c = stepZ s c x from (if_pos hf).symm]
      exact go _ rfl
    · rw [if_neg hf, put_f s c x.f1 x.f2 (by omega) (by omega) k (by omega)]
      simp only [Option.bind_some]
      rw [show putZ s c x.f1 x.f2 = stepZ s c x from (if_neg hf).symm]
      exact go _ rfl
theorem run_f (s : List ByteArray) (c : List S29) (l : List S85) (n : Int) (hs : s.length ≤ 1000) (hc : c.length ≤ 50000) (hl : l.length ≤ 50000) (k : Nat) (hk : s.length + c.length + 2 * l.length + 60 ≤ k) : disk_Run.f k s c l n = some (runZ s c (l.take n.toNat)) := by
  unfold disk_Run.f runZ
  rw [may_f s c (by omega) (by omega) _ (by omega)]
  simp only [Option.bind_some]
  by_cases hm : mayB s c = true
  · rw [if_pos hm, if_pos hm]
    have hq : mn (mx n 0) (l.length : Int) = ((min n.toNat l.length : Nat) : Int) := by unfold mn mx; split <;> split <;> omega
    rw [hq, if_pos (by omega), if_pos (by omega), Int.toNat_natCast]
    have ht : l.take (min n.toNat l.length) = l.take n.toNat := by
      rcases Nat.le_total n.toNat l.length with h | h
      · rw [Nat.min_eq_left h]
      · rw [Nat.min_eq_right h, List.take_of_length_le (Nat.le_refl _), List.take_of_length_le h]
    rw [ht]
    have hz : (l.take n.toNat).length ≤ l.length := List.length_take_le' _ _
    have h := run_l0 (l.take n.toNat) s c (by omega) (l.take n.toNat) 0 k s c rfl (Nat.zero_le _) (by omega) (by omega) (by omega) hm
    rw [Int.natCast_zero] at h
    exact h
  · rw [if_neg hm, if_neg hm]
end Go.Proofs.Ythoddglnfdmdeaa.P
set_option linter.unusedVariables false
set_option linter.unusedSimpArgs false
namespace Go.Proofs.Ythoddglnfdmdeaa.Pl
set_option linter.unusedSimpArgs false
open Go.RowKit Go.Proofs.Ythoddglnfdmdeaa.P Go.Proofs.YthoddglnfdmdeaaW.PrintWords Go.Proofs.YthoddglnfdmdeaaW.PrintLast Go.Proofs.YthoddglnfdmdeaaW.PrintMore
/-- Do sectors join to a payload of a size? -/
def joins (l : List ByteArray) (n : Int) : Prop := cntP n = (l.length : Int) ∧ odd32 l = false ∧ cutP ((joined l).extract 0 n.toNat) = l
instance (l : List ByteArray) (n : Int) : Decidable (joins l n) := by unfold joins; infer_instance
def joinP (l : List ByteArray) (n : Int) : ByteArray × Bool := if joins l n then ((joined l).extract 0 n.toNat, true) else (⟨#[]⟩, false)
theorem cntP_some {n : Int} {m : Nat} (h : cntP n = (m : Int)) : 0 ≤ n ∧ n ≤ 4096 ∧ m = cntN n.toNat := by
  unfold cntP cntN at *
  split at h <;> omega
theorem cutP_length (s : ByteArray) (h : s.size ≤ 4096) : (cutP s).length = cntN s.size := by unfold cutP; rw [if_pos h, cutN_length]
theorem Join_spec (l : List ByteArray) (n : Int) (k : Nat) (hk : 300 ≤ k) : rec_Join.f k l n = some (joinP l n) := by
  unfold rec_Join.f joinP
  rw [Count_spec, Option.bind_some]
  by_cases h : cntP n = (l.length : Int)
  · rw [if_pos h]
    obtain ⟨h0, h1, h2⟩ := cntP_some h
    by_cases ho : odd32 l = true
    · rw [if_pos ho, if_neg (fun x => by rw [x.2.1] at ho; cases ho)]
    · have ho' : odd32 l = false := by simpa using ho
      have hj := joined_size l ho'
      have hsz : ((joined l).extract 0 n.toNat).size = n.toNat := by rw [ByteArray.size_extract, hj]; unfold cntN at h2; omega
      rw [if_neg ho, if_pos (by unfold cntN at h2; omega), if_pos h0, if_pos (by rw [hj]; unfold cntN at h2; omega), Cut_spec _ k (by omega), Option.bind_some, Equal_spec _ l (by rw [cutP_length _ (by omega), hsz]; unfold cntN; omega) k (by rw [cutP_length _ (by omega), hsz]; unfold cntN; omega), Option.bind_some]
      by_cases hc : cutP ((joined l).extract 0 n.toNat) = l
      · rw [if_pos (decide_eq_true hc), if_pos ⟨h, ho', hc⟩]
      · rw [if_neg (by simpa using hc), if_neg (fun x => hc x.2.2)]
  · rw [if_neg h, if_neg (fun x => h x.1)]
end Go.Proofs.Ythoddglnfdmdeaa.Pl
set_option linter.unusedVariables false
set_option linter.unusedSimpArgs false
namespace Go.Proofs.Ythoddglnfdmdeaa.Pl
set_option linter.unusedSimpArgs false
open Go.RowKit Go.Proofs.Ythoddglnfdmdeaa.P Go.Proofs.YthoddglnfdmdeaaW.PrintWords Go.Proofs.YthoddglnfdmdeaaW.PrintLast Go.Proofs.YthoddglnfdmdeaaW.PrintMore
theorem bt_headT (a b c d e : Int) (i : Nat) (h : i < 32) : bt (headT a b c d e) (i : Int) = (headL a b c d e)[i]'(by show i < 32; exact h) := by
  rw [bt_bs _ i (by rw [headT_size]; exact h)]
  congr 1
  exact bs_headT a b c d e
theorem numAt_of {s : ByteArray} {i : Nat} {n : Int} (hn : 0 ≤ n ∧ n < 4294967296) (h0 : bt s (i : Int) = n / 16777216 % 256) (h1 : bt s ((i + 1 : Nat) : Int) = n / 65536 % 256) (h2 : bt s ((i + 2 : Nat) : Int) = n / 256 % 256) (h3 : bt s ((i + 3 : Nat) : Int) = n % 256) : numAt s (i : Int) = n := by
  unfold numAt
  rw [show (i : Int) + 1 = ((i + 1 : Nat) : Int) by omega, show (i : Int) + 2 = ((i + 2 : Nat) : Int) by omega, show (i : Int) + 3 = ((i + 3 : Nat) : Int) by omega, h0, h1, h2, h3]
  omega
theorem numAt_headT (a b c d e : Int) (hb : 0 ≤ b ∧ b < 4294967296) (hc : 0 ≤ c ∧ c < 4294967296) (hd : 0 ≤ d ∧ d < 4294967296) (he : 0 ≤ e ∧ e < 4294967296) :
    numAt (headT a b c d e) 2 = b ∧ numAt (headT a b c d e) 6 = c ∧ numAt (headT a b c d e) 10 = d ∧ numAt (headT a b c d e) 14 = e := by
  have B := fun i h => bt_headT a b c d e i h
  exact ⟨numAt_of (i := 2) hb (B 2 (by decide)) (B 3 (by decide)) (B 4 (by decide)) (B 5 (by decide)), numAt_of (i := 6) hc (B 6 (by decide)) (B 7 (by decide)) (B 8 (by decide)) (B 9 (by decide)),
    numAt_of (i := 10) hd (B 10 (by decide)) (B 11 (by decide)) (B 12 (by decide)) (B 13 (by decide)), numAt_of (i := 14) he (B 14 (by decide)) (B 15 (by decide)) (B 16 (by decide)) (B 17 (by decide))⟩
theorem readP_headT (a b c d e : Int) (h : mayP a b c d e) : readP (headT a b c d e) = (a, b, c, d, e, true) := by
  have h' := h
  unfold mayP okSum at h'
  obtain ⟨n1, n2, n3, n4⟩ := numAt_headT a b c d e (by omega) (by omega) (by omega) (by omega)
  have h1 : bt (headT a b c d e) 1 = a := by
    have := bt_headT a b c d e 1 (by decide)
    rw [show ((1 : Nat) : Int) = 1 from rfl] at this
    rw [this]
    show a % 256 = a
    omega
  have hh : isHead (headT a b c d e) := by
    unfold isHead
    rw [h1, n1, n2, n3, n4]
    exact ⟨headT_size a b c d e, h, rfl⟩
  unfold readP
  rw [if_pos hh, h1, n1, n2, n3, n4]
end Go.Proofs.Ythoddglnfdmdeaa.Pl
namespace Go.Proofs.Ythoddglnfdmdeaa.P
open Go.RowKit Go.Proofs.YthoddglnfdmdeaaW.PrintWords Go.Proofs.YthoddglnfdmdeaaW.PrintLast Go.Proofs.YthoddglnfdmdeaaW.PrintMore Go.Proofs.Ythoddglnfdmdeaa.Pl
set_option linter.unusedVariables false
abbrev Cache := List S29
/-- What the sectors of a disk have. -/
def vw (s : List ByteArray) (c : Cache) (a : Int) : ByteArray := (getZ s c a).1
def checkB (f z : Int) : Bool := decide (2 ≤ z) && (decide (z ≤ 512) && (decide (0 ≤ f) && decide (f ≤ 512 - z)))
theorem checkB_iff (f z : Int) : checkB f z = true ↔ 2 ≤ z ∧ z ≤ 512 ∧ 0 ≤ f ∧ f ≤ 512 - z := by simp [checkB]
def liesB (f z : Int) (s : List ByteArray) (c : Cache) : Bool := checkB f z && (mayB s c && decide (f + z ≤ (s.length : Int)))
theorem jin_f (a b c : Int) : journal_in.f a b c = some (decide (b ≤ a) && decide (a ≤ c)) := by
  unfold journal_in.f
  by_cases h : b ≤ a
  · rw [if_pos h, decide_eq_true h, Bool.true_and]
  · rw [if_neg h, decide_eq_false h, Bool.false_and]
theorem check_f (f z : Int) : journal_Region_Check.f f z = some (checkB f z) := by
  unfold journal_Region_Check.f checkB
  rw [jin_f, jin_f]
  simp only [Option.bind_some]
  by_cases h : 2 ≤ z ∧ z ≤ 512
  · rw [decide_eq_true h.1, decide_eq_true h.2, w64 (by omega) (by omega)]; rfl
  · rw [if_neg (by simpa using h)]
    congr 1
    symm
    rw [← Bool.and_assoc]
    rw [show (decide (2 ≤ z) && decide (z ≤ 512)) = false from by simpa using h]
    rfl
theorem end_f {f z : Int} (h : checkB f z = true) : journal_Region_end.f f z = some (f + z) := by
  have h := (checkB_iff f z).1 h
  unfold journal_Region_end.f
  rw [w64 (by omega) (by omega)]
theorem lies_f (f z : Int) (s : List ByteArray) (c : Cache) (hs : s.length ≤ 1000000) (hc : c.length ≤ 1000000) (k : Nat) (hk : s.length + c.length + 10 ≤ k) : journal_place_lies.f k f z s c = some (liesB f z s c) := by
  unfold journal_place_lies.f liesB
  rw [check_f]
  simp only [Option.bind_some]
  by_cases h : checkB f z = true
  · rw [if_pos h, may_f s c (by omega) (by omega) k (by omega), h]
    simp only [Option.bind_some, Bool.true_and]
    by_cases hm : mayB s c = true
    · rw [if_pos hm, hm, end_f h]; rfl
    · rw [if_neg hm, Bool.eq_false_iff.2 hm]; rfl
  · rw [if_neg h, Bool.eq_false_iff.2 h]; rfl
theorem rlies_f (f z : Int) (s : List ByteArray) (c : Cache) (hs : s.length ≤ 1000000) (hc : c.length ≤ 1000000) (k : Nat) (hk : s.length + c.length + 10 ≤ k) : armadaref04_Lies.f k s c f z = some (liesB f z s c) := by
  unfold armadaref04_Lies.f liesB armadaref04_Check.f
  by_cases h : checkB f z = true
  · have hh := (checkB_iff f z).1 h
    rw [if_pos (by omega), if_pos (by omega), if_pos (by omega), w64 (by omega) (by omega)]
    simp only [Option.bind_some]
    rw [if_pos (decide_eq_true (by omega)), rmay_f s c hs hc k (by omega), h]
    simp only [Option.bind_some, Bool.true_and]
    by_cases hm : mayB s c = true
    · rw [if_pos hm, hm, w64 (by omega) (by omega)]; rfl
    · rw [if_neg hm, Bool.eq_false_iff.2 hm]; rfl
  · rw [Bool.eq_false_iff.2 h, Bool.false_and]
    have hn := fun q => h ((checkB_iff f z).2 q)
    by_cases h0 : f ≥ 0
    · rw [if_pos h0]
      by_cases h1 : z ≥ 2
      · rw [if_pos h1]
        by_cases h2 : z ≤ 512
        · rw [if_pos h2, w64 (by omega) (by omega)]
          simp only [Option.bind_some]
          have hq : ¬ (f ≤ 512 - z) := fun q => hn ⟨h1, h2, h0, q⟩
          rw [if_neg (by simpa using hq)]
        · rw [if_neg h2]; rfl
      · rw [if_neg h1]; rfl
    · rw [if_neg h0]; rfl
theorem head_f (f z : Int) (s : List ByteArray) (c : Cache) (a : Int) (k : Nat) (hk : 5 ≤ k) : journal_place_head.f k f z s c a = some (readP (vw s c a)) := by
  unfold journal_place_head.f
  rw [show disk_Get.f s c a = some (getZ s c a) from rfl]
  simp only [Option.bind_some]
  rw [Read_spec _ k hk]
  rfl
/-- The sectors from a place on. -/
def secs (D : Int → ByteArray) (a : Int) (n : Nat) : List ByteArray := (List.range n).map (fun (i : Nat) => D (a + (i : Int)))
theorem secs_length (D : Int → ByteArray) (a : Int) (n : Nat) : (secs D a n).length = n := by simp [secs]
theorem secs_succ (D : Int → ByteArray) (a : Int) (n : Nat) : secs D a (n + 1) = secs D a n ++ [D (a + (n : Int))] := by simp [secs, List.range_succ]
/-- Is the sector the head of that record? -/
def isRec (D : Int → ByteArray) (e a gen seq : Int) : Bool :=
  (readP (D a)).2.2.2.2.2 && (decide ((readP (D a)).1 = 2) && (decide ((readP (D a)).2.1 = gen) && (decide ((readP (D a)).2.2.1 = seq) && decide (a + 1 + cntP (readP (D a)).2.2.2.1 ≤ e))))
def recP (D : Int → ByteArray) (e a gen seq : Int) : ByteArray × Int × Bool :=
  if isRec D e a gen seq = true then
    ((joinP (secs D (a + 1) (cntP (readP (D a)).2.2.2.1).toNat) (readP (D a)).2.2.2.1).1, a + 1 + cntP (readP (D a)).2.2.2.1,
      (joinP (secs D (a + 1) (cntP (readP (D a)).2.2.2.1).toNat) (readP (D a)).2.2.2.1).2 && decide (num (ofP (bs (joinP (secs D (a + 1) (cntP (readP (D a)).2.2.2.1).toNat) (readP (D a)).2.2.2.1).1)) = (readP (D a)).2.2.2.2.1))
  else (⟨#[]⟩, 0, false)
theorem cntP_range (n : Int) : -1 ≤ cntP n ∧ cntP n ≤ 133 := by unfold cntP; split <;> omega
theorem readP_cnt (x : ByteArray) : 0 ≤ cntP (readP x).2.2.2.1 := by
  unfold readP
  split
  · rename_i h
    have h1 := h.2.1
    unfold mayP at h1
    show 0 ≤ cntP (numAt x 10)
    unfold cntP
    rw [if_pos h1.2.2.2.1]; omega
  · show 0 ≤ cntP 0
    decide
theorem joinP_size (l : List ByteArray) (n : Int) : (joinP l n).1.size ≤ 4096 := by
  unfold joinP
  split
  · rename_i h
    have := cntP_some h.1
    show ((joined l).extract 0 n.toNat).size ≤ 4096
    rw [ByteArray.size_extract]; omega
  · show (0 : Nat) ≤ 4096
    omega
theorem record_l0 (f z : Int) (s : List ByteArray) (c : Cache) (nx a : Int) (h1 h2 h3 size sum : Int) (ha : 0 ≤ a) (ha2 : a ≤ 600) (m : Nat) (hm : m ≤ 200) (hnx : nx = a + (m : Int)) : ∀ (d i k : Nat), m - i = d → i ≤ m → d + 5000 ≤ k →
    journal_place_record.l0 k nx (secs (vw s c) a i) (a + (i : Int)) f z s c h1 h2 h3 size sum =
      some ((joinP (secs (vw s c) a m) size).1, nx, (joinP (secs (vw s c) a m) size).2 && decide (num (ofP (bs (joinP (secs (vw s c) a m) size).1)) = sum))
  | 0, i, k, hd, hi, hk => by
    obtain ⟨k, rfl⟩ : ∃ k', k = k' + 1 := ⟨k - 1, by omega⟩
    have : i = m := by omega
    subst this
    rw [journal_place_record.l0, if_neg (by omega), Join_spec _ _ k (by omega)]
    simp only [Option.bind_some]
    have hz := joinP_size (secs (vw s c) a i) size
    cases hj : (joinP (secs (vw s c) a i) size).2
    · rw [if_neg (by simp)]; simp
    · rw [if_pos rfl, of_spec _ (by omega) k (by omega)]
      simp only [Option.bind_some, Bool.true_and]
      rfl
  | d + 1, i, k, hd, hi, hk => by
    obtain ⟨k, rfl⟩ : ∃ k', k = k' + 1 := ⟨k - 1, by omega⟩
    rw [journal_place_record.l0, if_pos (by omega), show disk_Get.f s c (a + (i : Int)) = some (getZ s c (a + (i : Int))) from rfl]
    simp only [Option.bind_some]
    rw [if_pos (by rw [secs_length]; omega), show (getZ s c (a + (i : Int))).1 = vw s c (a + (i : Int)) from rfl, ← secs_succ, w64 (by omega) (by omega), show a + (i : Int) + 1 = a + ((i + 1 : Nat) : Int) from by omega]
    exact record_l0 f z s c nx a h1 h2 h3 size sum ha ha2 m hm hnx d (i + 1) k (by omega) (by omega) (by omega)
theorem record_f (f z : Int) (s : List ByteArray) (c : Cache) (a gen seq : Int) (hc : checkB f z = true) (ha : 0 ≤ a) (ha2 : a ≤ 520) (k : Nat) (hk : 6000 ≤ k) :
    journal_place_record.f k f z s c a gen seq = some (recP (vw s c) (f + z) a gen seq) := by
  have hn := readP_cnt (vw s c a)
  have hr := cntP_range (readP (vw s c a)).2.2.2.1
  have no : ∀ (k' : Nat) (q1 q2 q3 q4 q5 q6 : Int), 1 ≤ k' → isRec (vw s c) (f + z) a gen seq = false → journal_place_record.j0 k' a q1 true f z s c q2 q3 q4 q5 q6 = some (recP (vw s c) (f + z) a gen seq) := by
    intro k' q1 q2 q3 q4 q5 q6 hk' hi
    obtain ⟨k', rfl⟩ : ∃ k2, k' = k2 + 1 := ⟨k' - 1, by omega⟩
    rw [journal_place_record.j0, if_pos rfl]
    unfold recP
    rw [hi]; rfl
  unfold journal_place_record.f
  rw [head_f f z s c a k (by omega)]
  simp only [Option.bind_some]
  rw [Count_spec]
  simp only [Option.bind_some]
  by_cases h0 : (readP (vw s c a)).2.2.2.2.2 = true
  rotate_left
  · rw [if_neg h0]; exact no k _ _ _ _ _ _ (by omega) (by unfold isRec; rw [Bool.eq_false_iff.2 h0]; rfl)
  rw [if_pos h0]
  by_cases h1 : (readP (vw s c a)).1 = 2
  rotate_left
  · rw [if_neg h1]; exact no k _ _ _ _ _ _ (by omega) (by unfold isRec; rw [decide_eq_false h1]; simp)
  rw [if_pos h1]
  by_cases h2 : (readP (vw s c a)).2.1 = gen
  rotate_left
  · rw [if_neg h2]; exact no k _ _ _ _ _ _ (by omega) (by unfold isRec; rw [decide_eq_false h2]; simp)
  rw [if_pos h2]
  by_cases h3 : (readP (vw s c a)).2.2.1 = seq
  rotate_left
  · rw [if_neg h3]; exact no k _ _ _ _ _ _ (by omega) (by unfold isRec; rw [decide_eq_false h3]; simp)
  rw [if_pos h3, end_f hc]
  simp only [Option.bind_some]
  rw [w64 (x := a + 1) (by omega) (by omega), w64 (x := a + 1 + _) (by omega) (by omega)]
  by_cases h4 : a + 1 + cntP (readP (vw s c a)).2.2.2.1 ≤ f + z
  rotate_left
  · rw [decide_eq_true (show a + 1 + cntP (readP (vw s c a)).2.2.2.1 > f + z by omega)]; exact no k _ _ _ _ _ _ (by omega) (by unfold isRec; rw [decide_eq_false h4]; simp)
  rw [decide_eq_false (show ¬ a + 1 + cntP (readP (vw s c a)).2.2.2.1 > f + z by omega)]
  obtain ⟨k, rfl⟩ : ∃ k2, k = k2 + 1 := ⟨k - 1, by omega⟩
  rw [journal_place_record.j0, if_neg (by simp), w64 (x := a + 1) (by omega) (by omega)]
  have h := record_l0 f z s c (a + 1 + cntP (readP (vw s c a)).2.2.2.1) (a + 1) (readP (vw s c a)).1 (readP (vw s c a)).2.1 (readP (vw s c a)).2.2.1 (readP (vw s c a)).2.2.2.1 (readP (vw s c a)).2.2.2.2.1 (by omega) (by omega) (cntP (readP (vw s c a)).2.2.2.1).toNat (by omega) (by omega) _ 0 k rfl (by omega) (by omega)
  rw [show a + 1 + ((0 : Nat) : Int) = a + 1 from by omega] at h
  refine h.trans ?_
  unfold recP
  rw [if_pos (by unfold isRec; rw [h0, decide_eq_true h1, decide_eq_true h2, decide_eq_true h3, decide_eq_true h4]; rfl)]
end Go.Proofs.Ythoddglnfdmdeaa.P
namespace Go.Proofs.Ythoddglnfdmdeaa.P
open Go.RowKit Go.Proofs.YthoddglnfdmdeaaW.PrintWords Go.Proofs.YthoddglnfdmdeaaW.PrintLast Go.Proofs.YthoddglnfdmdeaaW.PrintMore Go.Proofs.Ythoddglnfdmdeaa.Pl
set_option linter.unusedVariables false
theorem recP_true {D : Int → ByteArray} {e a gen seq : Int} (h : (recP D e a gen seq).2.2 = true) : isRec D e a gen seq = true ∧ a + 1 ≤ (recP D e a gen seq).2.1 ∧ (recP D e a gen seq).2.1 ≤ e ∧ (recP D e a gen seq).2.1 = a + 1 + cntP (readP (D a)).2.2.2.1 := by
  by_cases hi : isRec D e a gen seq = true
  · have hn := readP_cnt (D a)
    have he : (recP D e a gen seq).2.1 = a + 1 + cntP (readP (D a)).2.2.2.1 := by unfold recP; rw [if_pos hi]
    rw [he]
    refine ⟨hi, by omega, ?_, rfl⟩
    unfold isRec at hi
    simp only [Bool.and_eq_true, decide_eq_true_eq] at hi
    exact hi.2.2.2.2
  · unfold recP at h
    rw [if_neg hi] at h
    cases h
/-- The log from a place on. -/
def scan (D : Int → ByteArray) (e gen : Int) : Nat → List ByteArray → Int → List ByteArray × Int
  | 0, items, nx => (items, nx)
  | k + 1, items, nx => if nx = e then (items, nx) else if (recP D e nx gen (items.length : Int)).2.2 = true then scan D e gen k (items ++ [(recP D e nx gen (items.length : Int)).1]) (recP D e nx gen (items.length : Int)).2.1 else (items, nx)
theorem open_l0 (f z : Int) (s : List ByteArray) (c : Cache) (gen : Int) (hc : checkB f z = true) : ∀ (d k : Nat) (items : List ByteArray) (nx : Int), 0 ≤ nx → nx ≤ f + z → (f + z - nx).toNat ≤ d → items.length + d ≤ 10000 → d + 6010 ≤ k →
    journal_Open.l0 k f z f z s c gen items nx = some (gen, (scan (vw s c) (f + z) gen d items nx).1, (scan (vw s c) (f + z) gen d items nx).2, 0)
  | 0, k, items, nx, h0, h1, hd, hl, hk => by
    obtain ⟨k, rfl⟩ : ∃ k', k = k' + 1 := ⟨k - 1, by omega⟩
    rw [journal_Open.l0, end_f hc]
    simp only [Option.bind_some]
    rw [if_pos (by omega)]; rfl
  | d + 1, k, items, nx, h0, h1, hd, hl, hk => by
    obtain ⟨k, rfl⟩ : ∃ k', k = k' + 1 := ⟨k - 1, by omega⟩
    have hcc := (checkB_iff f z).1 hc
    rw [journal_Open.l0, end_f hc]
    simp only [Option.bind_some]
    rw [scan]
    by_cases he : nx = f + z
    · rw [if_pos he, if_pos he]
    · rw [if_neg he, if_neg he, record_f f z s c nx gen _ hc h0 (by omega) k (by omega)]
      simp only [Option.bind_some]
      by_cases hr : (recP (vw s c) (f + z) nx gen (items.length : Int)).2.2 = true
      · have h := recP_true hr
        rw [if_pos hr, if_pos hr, if_pos (by omega)]
        exact open_l0 f z s c gen hc d k _ _ (by omega) (by omega) (by omega) (by rw [List.length_append, List.length_singleton]; omega) (by omega)
      · rw [if_neg hr, if_neg hr]
/-- Is it the head of a log? -/
def begB (x : ByteArray) : Bool := (readP x).2.2.2.2.2 &&
  !(!((readP x).1 == (makeP 1 (readP x).2.1 0 ⟨#[]⟩).1) || (!((readP x).2.1 == (makeP 1 (readP x).2.1 0 ⟨#[]⟩).2.1) || (!((readP x).2.2.1 == (makeP 1 (readP x).2.1 0 ⟨#[]⟩).2.2.1) || (!((readP x).2.2.2.1 == (makeP 1 (readP x).2.1 0 ⟨#[]⟩).2.2.2.1) || (!((readP x).2.2.2.2.1 == (makeP 1 (readP x).2.1 0 ⟨#[]⟩).2.2.2.2.1))))))
def openP (D : Int → ByteArray) (f e : Int) : Int × List ByteArray × Int × Int :=
  if begB (D f) = true then ((readP (D f)).2.1, (scan D e (readP (D f)).2.1 600 [] (f + 1)).1, (scan D e (readP (D f)).2.1 600 [] (f + 1)).2, 0) else (0, [], 0, 5)
def openZ (s : List ByteArray) (c : Cache) (f z : Int) : Int × List ByteArray × Int × Int := if liesB f z s c = true then openP (vw s c) f (f + z) else (0, [], 0, 1)
theorem liesB_true {f z : Int} {s : List ByteArray} {c : Cache} (h : liesB f z s c = true) : checkB f z = true ∧ mayB s c = true ∧ f + z ≤ (s.length : Int) := by
  unfold liesB at h
  simp only [Bool.and_eq_true, decide_eq_true_eq] at h
  exact ⟨h.1, h.2.1, h.2.2⟩
theorem open_f (f z : Int) (s : List ByteArray) (c : Cache) (hs : s.length ≤ 1000) (hc : c.length ≤ 10000) (k : Nat) (hk : 20000 ≤ k) : journal_Open.f k s c f z = some (openZ s c f z) := by
  unfold journal_Open.f openZ
  rw [lies_f f z s c (by omega) (by omega) k (by omega)]
  simp only [Option.bind_some]
  by_cases hl : liesB f z s c = true
  rotate_left
  · rw [if_neg hl, if_neg hl]
  have hcc := (checkB_iff f z).1 (liesB_true hl).1
  rw [if_pos hl, if_pos hl, head_f f z s c f k (by omega)]
  simp only [Option.bind_some]
  rw [Make_spec 1 _ 0 _ (by show (0 : Nat) ≤ _; omega) k (by show 0 < k; omega)]
  simp only [Option.bind_some]
  unfold openP begB
  have key : ∀ q : Bool, journal_Open.j0 k q f z f z s c (readP (vw s c f)).1 (readP (vw s c f)).2.1 (readP (vw s c f)).2.2.1 (readP (vw s c f)).2.2.2.1 (readP (vw s c f)).2.2.2.2.1 =
      some (if (!q) = true then ((readP (vw s c f)).2.1, (scan (vw s c) (f + z) (readP (vw s c f)).2.1 600 [] (f + 1)).1, (scan (vw s c) (f + z) (readP (vw s c f)).2.1 600 [] (f + 1)).2, 0) else (0, [], 0, 5)) := by
    intro q
    obtain ⟨k, rfl⟩ : ∃ k', k = k' + 1 := ⟨k - 1, by omega⟩
    rw [journal_Open.j0]
    cases q
    · rw [if_neg (by decide), if_pos (by decide), w64 (by omega) (by omega), open_l0 f z s c _ (liesB_true hl).1 600 k [] (f + 1) (by omega) (by omega) (by omega) (by simp) (by omega)]
    · rw [if_pos rfl, if_neg (by decide)]
  by_cases hi : (readP (vw s c f)).2.2.2.2.2 = true
  · rw [if_pos hi, key, hi, Bool.true_and]
  · rw [if_neg hi, key, Bool.eq_false_iff.2 hi, Bool.false_and]; rfl
/-- Is the sector the head of a transaction of that generation, of that number or behind it? -/
def badB (x : ByteArray) (gen n : Int) : Bool := (readP x).2.2.2.2.2 && (decide ((readP x).1 = 2) && (decide ((readP x).2.1 = gen) && decide ((readP x).2.2.1 ≥ n)))
def clB (D : Int → ByteArray) (gen n : Int) : Nat → Int → Bool
  | 0, _ => true
  | d + 1, a => !badB (D a) gen n && clB D gen n d (a + 1)
theorem clB_iff (D : Int → ByteArray) (gen n : Int) : ∀ (d : Nat) (a : Int), clB D gen n d a = true ↔ ∀ b, a ≤ b → b < a + (d : Int) → badB (D b) gen n = false
  | 0, a => ⟨fun _ b h1 h2 => by omega, fun _ => rfl⟩
  | d + 1, a => by
    rw [clB, Bool.and_eq_true, clB_iff D gen n d (a + 1)]
    constructor
    · rintro ⟨h1, h2⟩ b hb1 hb2
      by_cases hb : b = a
      · subst hb; simpa using h1
      · exact h2 b (by omega) (by omega)
    · intro h
      exact ⟨by simpa using h a (by omega) (by omega), fun b h1 h2 => h b (by omega) (by omega)⟩
theorem clean_l0 (f z : Int) (s : List ByteArray) (c : Cache) (gen : Int) (items : List ByteArray) (nx : Int) (hc : checkB f z = true) : ∀ (d k : Nat) (a : Int), 0 ≤ a → (f + z - a).toNat = d → d + 10 ≤ k →
    journal_Clean.l0 k a f z gen items nx f z s c = some (clB (vw s c) gen (items.length : Int) d a)
  | 0, k, a, h0, hd, hk => by
    obtain ⟨k, rfl⟩ : ∃ k', k = k' + 1 := ⟨k - 1, by omega⟩
    rw [journal_Clean.l0, end_f hc]
    simp only [Option.bind_some]
    rw [if_neg (by omega)]; rfl
  | d + 1, k, a, h0, hd, hk => by
    obtain ⟨k, rfl⟩ : ∃ k', k = k' + 1 := ⟨k - 1, by omega⟩
    have hcc := (checkB_iff f z).1 hc
    rw [journal_Clean.l0, end_f hc]
    simp only [Option.bind_some]
    rw [if_pos (by omega), head_f f z s c a k (by omega)]
    simp only [Option.bind_some]
    rw [w64 (by omega) (by omega), clean_l0 f z s c gen items nx hc d k (a + 1) (by omega) (by omega) (by omega), clB, badB]
    cases (readP (vw s c a)).2.2.2.2.2
    · rw [if_neg (by decide)]; rfl
    rw [if_pos rfl, Bool.true_and]
    by_cases h1 : (readP (vw s c a)).1 = 2
    rotate_left
    · rw [if_neg h1, decide_eq_false h1]; rfl
    rw [if_pos h1, decide_eq_true h1, Bool.true_and]
    by_cases h2 : (readP (vw s c a)).2.1 = gen
    rotate_left
    · rw [if_neg h2, decide_eq_false h2]; rfl
    rw [if_pos h2, decide_eq_true h2, Bool.true_and]
    by_cases h3 : (readP (vw s c a)).2.2.1 ≥ (items.length : Int)
    · rw [if_pos h3, decide_eq_true h3]; rfl
    · rw [if_neg h3, decide_eq_false h3]; rfl
def cleanZ (s : List ByteArray) (c : Cache) (f z gen n nx : Int) : Bool := liesB f z s c && clB (vw s c) gen n (f + z - mx nx f).toNat (mx nx f)
theorem clean_f (f z : Int) (s : List ByteArray) (c : Cache) (gen : Int) (items : List ByteArray) (nx : Int) (hs : s.length ≤ 1000) (hc : c.length ≤ 10000) (k : Nat) (hk : 20000 ≤ k) : journal_Clean.f k s c f z gen items nx = some (cleanZ s c f z gen (items.length : Int) nx) := by
  unfold journal_Clean.f cleanZ
  rw [lies_f f z s c (by omega) (by omega) k (by omega)]
  simp only [Option.bind_some]
  by_cases hl : liesB f z s c = true
  rotate_left
  · rw [if_neg hl, Bool.eq_false_iff.2 hl]; rfl
  have hcc := (checkB_iff f z).1 (liesB_true hl).1
  have hm : f ≤ mx nx f := by unfold mx; split <;> omega
  rw [if_pos hl, hl, Bool.true_and]
  exact clean_l0 f z s c gen items nx (liesB_true hl).1 _ k _ (by omega) rfl (by omega)
theorem cleanZ_iff {s : List ByteArray} {c : Cache} {f z gen n nx : Int} (hl : liesB f z s c = true) (hn : f ≤ nx) (he : nx ≤ f + z) : cleanZ s c f z gen n nx = true ↔ ∀ b, nx ≤ b → b < f + z → badB (vw s c b) gen n = false := by
  have hm : mx nx f = nx := by unfold mx; split <;> omega
  unfold cleanZ
  rw [hl, Bool.true_and, hm, clB_iff]
  constructor
  · intro h b h1 h2; exact h b h1 (by omega)
  · intro h b h1 h2; exact h b h1 (by omega)
end Go.Proofs.Ythoddglnfdmdeaa.P
namespace Go.Proofs.Ythoddglnfdmdeaa.P
open Go.RowKit Go.Proofs.YthoddglnfdmdeaaW.PrintWords Go.Proofs.YthoddglnfdmdeaaW.PrintLast Go.Proofs.YthoddglnfdmdeaaW.PrintMore Go.Proofs.Ythoddglnfdmdeaa.Pl
set_option linter.unusedVariables false
theorem scan_stop (D : Int → ByteArray) (e gen : Int) (k : Nat) (items : List ByteArray) (nx : Int) (h : nx = e ∨ (recP D e nx gen (items.length : Int)).2.2 = false) : scan D e gen k items nx = (items, nx) := by
  cases k with
  | zero => rfl
  | succ k =>
    rw [scan]
    rcases h with h | h
    · rw [if_pos h]
    · by_cases he : nx = e
      · rw [if_pos he]
      · rw [if_neg he, if_neg (by rw [h]; decide)]
end Go.Proofs.Ythoddglnfdmdeaa.P
namespace Go.Proofs.Ythoddglnfdmdeaa.P
open Go.RowKit Go.Proofs.YthoddglnfdmdeaaW.PrintWords Go.Proofs.YthoddglnfdmdeaaW.PrintLast Go.Proofs.YthoddglnfdmdeaaW.PrintMore Go.Proofs.Ythoddglnfdmdeaa.Pl
set_option linter.unusedVariables false
/-- The last write of a place, of those that are kept. -/
def lastK (kb : Nat → Bool) (b : Int) : Nat → Cache → ByteArray → ByteArray
  | _, [], z => z
  | i, x :: r, z => lastK kb b (i + 1) r (if kb i = true ∧ x.f0 = b then x.f1 else z)
theorem lastK_all (b : Int) : ∀ (r : Cache) (i : Nat) (z : ByteArray), lastK (fun _ => true) b i r z = lastW b r z
  | [], _, _ => rfl
  | x :: r, i, z => by
    rw [lastK, lastW, lastK_all b r]
    by_cases h : x.f0 = b
    · rw [if_pos ⟨rfl, h⟩, if_pos h]
    · rw [if_neg (fun q => h q.2), if_neg h]
theorem rdn_set (l : List ByteArray) (a : Nat) (b : Int) (x : ByteArray) (hb : 0 ≤ b) (h : b < (l.length : Int)) : rdOf ByteArray.empty (l.set a x) b = if (a : Int) = b then x else rdOf ByteArray.empty l b := by
  unfold rdOf
  rw [List.getD_eq_getElem?_getD, List.getD_eq_getElem?_getD, List.getElem?_set]
  by_cases hab : (a : Int) = b
  · rw [if_pos hab, if_pos (by omega), if_pos (by omega)]; rfl
  · rw [if_neg hab, if_neg (by omega)]
theorem rd_wrt (kb : Nat → Bool) (b : Int) (hb : 0 ≤ b) : ∀ (r : Cache) (i : Nat) (row : List ByteArray), b < (row.length : Int) → (∀ x ∈ r, 0 ≤ x.f0) → rdOf ByteArray.empty (wrt kb i r row) b = lastK kb b i r (rdOf ByteArray.empty row b)
  | [], _, _, _, _ => rfl
  | x :: r, i, row, h, hr => by
    rw [wrt, lastK, rd_wrt kb b hb r (i + 1) _ (by split <;> simpa using h) (fun y hy => hr y (List.mem_cons_of_mem _ hy))]
    congr 1
    have h0 := hr x List.mem_cons_self
    by_cases hk : kb i = true
    · rw [if_pos hk, rdn_set row _ b _ hb h]
      by_cases hx : x.f0 = b
      · rw [if_pos (by omega), if_pos ⟨hk, hx⟩]
      · rw [if_neg (by omega), if_neg (fun q => hx q.2)]
    · rw [if_neg hk, if_neg (fun q => hk q.1)]
theorem vw_in {s : List ByteArray} {c : Cache} {b : Int} (h : mayB s c = true) (h0 : 0 ≤ b) (h1 : b < (s.length : Int)) : vw s c b = lastW b c (rdOf ByteArray.empty s b) := by
  unfold vw getZ
  rw [h, decide_eq_true h0, decide_eq_true h1]; rfl
theorem vw_out {s : List ByteArray} {c : Cache} {b : Int} (h : ¬ (0 ≤ b ∧ b < (s.length : Int))) : vw s c b = ⟨#[]⟩ := by
  unfold vw getZ
  rw [if_neg (by simp only [Bool.and_eq_true, decide_eq_true_eq]; exact fun q => h q.2)]
theorem vw_wrt {s : List ByteArray} {c : Cache} (kb : Nat → Bool) {b : Int} (h : mayB s c = true) (h0 : 0 ≤ b) (h1 : b < (s.length : Int)) : vw (wrt kb 0 c s) [] b = lastK kb b 0 c (rdOf ByteArray.empty s b) := by
  rw [vw_in (mayB_wrt h kb) h0 (by rw [wrt_length]; exact h1), lastW]
  exact rd_wrt kb b h0 c 0 s h1 (fun x hx => (mayB_wr h x hx).1)
theorem vw_flush {s : List ByteArray} {c : Cache} (b : Int) (h : mayB s c = true) : vw (wrt (fun _ => true) 0 c s) [] b = vw s c b := by
  by_cases hb : 0 ≤ b ∧ b < (s.length : Int)
  · rw [vw_wrt _ h hb.1 hb.2, vw_in h hb.1 hb.2, lastK_all]
  · rw [vw_out hb, vw_out (by rw [wrt_length]; exact hb)]
theorem fil_full {x : ByteArray} (h : x.size = 32) : fil x = x := by
  unfold fil
  rw [h]
  exact ByteArray.append_empty
theorem put_ok {s : List ByteArray} {c : Cache} {a : Int} {x : ByteArray} (h : mayB s c = true) (h0 : 0 ≤ a) (h1 : a < (s.length : Int)) (hx : x.size = 32) : putZ s c a x = (s, c ++ [⟨a, x⟩], 0) ∧ mayB s (c ++ [⟨a, x⟩]) = true := by
  have hi : isB s a = true := by unfold isB; rw [decide_eq_true h0, decide_eq_true h1]; rfl
  have hp := mayB_put (x := x) h hi (by omega)
  rw [fil_full hx] at hp
  unfold putZ
  rw [h, hi, Bool.true_and, if_pos rfl, if_pos (by omega), fil_full hx]
  exact ⟨rfl, hp⟩
def Has (D E : Int → ByteArray) (next : Int) (l : List ByteArray) (H : ByteArray) : Prop := (∀ b, ¬ (next ≤ b ∧ b ≤ next + (l.length : Int)) → E b = D b) ∧ (∀ (q : Nat) (h : q < l.length), E (next + 1 + (q : Int)) = l[q]) ∧ E next = H
theorem runL_flush (s0 : List ByteArray) (c0 : Cache) (rest : List S85) {s : List ByteArray} {c : Cache} (h : mayB s c = true) : runL s0 c0 ((⟨true, 0, ⟨#[]⟩⟩ : S85) :: rest) s c = runL s0 c0 rest (wrt (fun _ => true) 0 c s) [] := by
  have hst : stepZ s c ⟨true, 0, ⟨#[]⟩⟩ = (wrt (fun _ => true) 0 c s, [], 0) := by unfold stepZ flushZ; rw [if_pos rfl, if_pos h]
  rw [runL, hst, if_pos rfl]
theorem runL_write (s0 : List ByteArray) (c0 : Cache) (rest : List S85) {s : List ByteArray} {c : Cache} {a : Int} {x : ByteArray} (h : mayB s c = true) (h0 : 0 ≤ a) (h1 : a < (s.length : Int)) (hx : x.size = 32) : runL s0 c0 ((⟨false, a, x⟩ : S85) :: rest) s c = runL s0 c0 rest s (c ++ [⟨a, x⟩]) := by
  have hst : stepZ s c ⟨false, a, x⟩ = (s, c ++ [⟨a, x⟩], 0) := (if_neg (show ¬ (false = true) from Bool.false_ne_true)).trans (put_ok h h0 h1 hx).1
  rw [runL, hst, if_pos rfl]
end Go.Proofs.Ythoddglnfdmdeaa.P
namespace Go.Proofs.Ythoddglnfdmdeaa.P
open Go.RowKit Go.Proofs.YthoddglnfdmdeaaW.PrintWords Go.Proofs.YthoddglnfdmdeaaW.PrintLast Go.Proofs.YthoddglnfdmdeaaW.PrintMore Go.Proofs.Ythoddglnfdmdeaa.Pl
set_option linter.unusedVariables false
theorem okSum_of (l : List Int) : okSum (num (ofP l)) := by
  have h := ofP_in l
  have a := num_high h
  have b := num_low h
  have c := num_range h
  unfold okSum
  rw [a, b]
  unfold InP at h
  omega
/-- A log's end: no head of a transaction of that generation and number stands there. -/
theorem recP_bad {D : Int → ByteArray} {e a gen : Int} {n : Int} {m : Int} (h : badB (D a) gen n = false) (hm : n ≤ m) : (recP D e a gen m).2.2 = false := by
  have : isRec D e a gen m = false := by
    rw [Bool.eq_false_iff]
    intro hi
    unfold isRec at hi
    unfold badB at h
    simp only [Bool.and_eq_true, decide_eq_true_eq] at hi
    rw [hi.1, decide_eq_true hi.2.1, decide_eq_true hi.2.2.1, decide_eq_true (show (readP (D a)).2.2.1 ≥ n by omega)] at h
    cases h
  unfold recP
  rw [if_neg (by rw [this]; decide)]
/-- A log, open and clean. -/
def LogIs (D : Int → ByteArray) (f e gen : Int) (items : List ByteArray) (nx : Int) : Prop :=
  begB (D f) = true ∧ (readP (D f)).2.1 = gen ∧ scan D e gen 600 [] (f + 1) = (items, nx) ∧ ∀ b, nx ≤ b → b < e → badB (D b) gen (items.length : Int) = false
theorem headActs_spec (k : Nat) (at_ kind gen seq : Int) (p : ByteArray) (hk : 5000 ≤ k) (hp : p.size ≤ 4096) (h : mayP kind gen seq (p.size : Int) (num (ofP (bs p)))) : headActs k at_ kind gen seq p = some [⟨false, at_, headT kind gen seq (p.size : Int) (num (ofP (bs p)))⟩, ⟨true, 0, ⟨#[]⟩⟩] := by
  unfold headActs
  rw [Make_spec kind gen seq p (by omega) k (by omega)]
  simp only [Option.bind_some]
  unfold makeP
  rw [if_pos h]
  simp only []
  rw [Text_spec _ _ _ _ _ (num_of_range _) k (by omega), if_pos h]
  rfl
def begT (gen : Int) : ByteArray := headT 1 gen 0 0 (num (ofP []))
theorem begMay {gen : Int} (hg : 0 ≤ gen ∧ gen ≤ 1073741824) : mayP 1 gen 0 0 (num (ofP [])) := ⟨⟨by omega, by omega⟩, hg, ⟨by omega, by omega⟩, ⟨by omega, by omega⟩, okSum_of _⟩
theorem begRead {gen : Int} (hg : 0 ≤ gen ∧ gen ≤ 1073741824) : readP (begT gen) = (1, gen, 0, 0, num (ofP []), true) := readP_headT _ _ _ _ _ (begMay hg)
theorem begMake {gen : Int} (hg : 0 ≤ gen ∧ gen ≤ 1073741824) : makeP 1 gen 0 ⟨#[]⟩ = (1, gen, 0, 0, num (ofP []), true) := by
  have e : bs (⟨#[]⟩ : ByteArray) = [] := rfl
  unfold makeP
  rw [e]
  exact if_pos (begMay hg)
theorem beg_is {gen : Int} (hg : 0 ≤ gen ∧ gen ≤ 1073741824) : begB (begT gen) = true := by
  unfold begB
  rw [begRead hg]
  simp only []
  rw [begMake hg]
  simp
theorem start_f (f z gen : Int) (k : Nat) (hk : 6000 ≤ k) (hc : checkB f z = true) : journal_Start.f k f z gen = some (if 0 ≤ gen ∧ gen ≤ 1073741824 then ([⟨false, f, begT gen⟩, ⟨true, 0, ⟨#[]⟩⟩], 0) else ([], 1)) := by
  unfold journal_Start.f
  rw [check_f]
  simp only [Option.bind_some]
  rw [if_pos hc, jin_f]
  simp only [Option.bind_some]
  by_cases hg : 0 ≤ gen ∧ gen ≤ 1073741824
  · rw [if_pos (by simpa using hg), if_pos hg]
    unfold journal_Start.tail
    rw [headActs_spec k f 1 gen 0 ⟨#[]⟩ (by omega) (by show (0 : Nat) ≤ 4096; omega) (begMay hg)]
    rfl
  · rw [if_neg (by simpa using hg), if_neg hg]
/-- A region that was started. -/
theorem start_run (s : List ByteArray) (c : Cache) (f gen : Int) (hm : mayB s c = true) (h0 : 0 ≤ f) (h1 : f < (s.length : Int)) :
    ∃ s', runZ s c [⟨false, f, begT gen⟩, ⟨true, 0, ⟨#[]⟩⟩] = (s', [], 0) ∧ mayB s' [] = true ∧ s'.length = s.length ∧ vw s' [] f = begT gen ∧ ∀ b, b ≠ f → vw s' [] b = vw s c b := by
  have hz : (begT gen).size = 32 := headT_size _ _ _ _ _
  have hw := (put_ok (x := begT gen) hm h0 h1 hz).2
  refine ⟨wrt (fun _ => true) 0 (c ++ [⟨f, begT gen⟩]) s, ?_, mayB_wrt hw _, wrt_length _ _ _ _, ?_, fun b hb => ?_⟩
  · unfold runZ
    rw [if_pos hm, runL_write _ _ _ hm h0 h1 hz]
    exact runL_flush _ _ _ hw
  · rw [vw_flush _ hw, vw_in hw h0 h1, lastW_append, P.lastW, P.lastW, if_pos rfl]
  · rw [vw_flush _ hw]
    by_cases hr : 0 ≤ b ∧ b < (s.length : Int)
    · rw [vw_in hw hr.1 hr.2, vw_in hm hr.1 hr.2, lastW_append, P.lastW, P.lastW, if_neg (fun q => hb q.symm)]
    · rw [vw_out hr, vw_out hr]
theorem start_log {E : Int → ByteArray} {f e gen : Int} (hfe : f + 1 ≤ e) (hg : 0 ≤ gen ∧ gen ≤ 1073741824) (hf : E f = begT gen) (hE : ∀ b, f < b → b < e → ¬ ((readP (E b)).2.2.2.2.2 = true ∧ (readP (E b)).2.1 = gen)) : LogIs E f e gen [] (f + 1) := by
  have hE2 : ∀ b, f + 1 ≤ b → b < e → badB (E b) gen (([] : List ByteArray).length : Int) = false := by
    intro b h1 h2
    rw [Bool.eq_false_iff]
    intro hi
    unfold badB at hi
    simp only [Bool.and_eq_true, decide_eq_true_eq] at hi
    exact hE b (by omega) h2 ⟨hi.1, hi.2.2.1⟩
  refine ⟨by rw [hf]; exact beg_is hg, by rw [hf, begRead hg], scan_stop E e gen 600 [] (f + 1) ?_, hE2⟩
  by_cases he : f + 1 = e
  · exact .inl he
  · exact .inr (recP_bad (hE2 _ (Int.le_refl _) (by omega)) (Int.le_refl _))
end Go.Proofs.Ythoddglnfdmdeaa.P
namespace Go.Proofs.Ythoddglnfdmdeaa.Pure
open Go.RowKit Go.Proofs.YthoddglnfdmdeaaW.PrintWords Go.Proofs.YthoddglnfdmdeaaW.PrintLast Go.Proofs.YthoddglnfdmdeaaW.PrintMore Go.Proofs.Ythoddglnfdmdeaa.P Go.Proofs.Ythoddglnfdmdeaa.Pl
set_option linter.unusedVariables false
theorem starts_l0 (s : List ByteArray) (c : Cache) (f z gen : Int) (s1 : List ByteArray) (items : List ByteArray) (nx : Int) (hs : s.length ≤ 600) (hc : c.length ≤ 200) (hs1 : s1.length ≤ 600) (hcc : checkB f z = true)
    (hfin : (∀ b, f < b → b < f + z → ¬ ((readP (vw s c b)).2.2.2.2.2 = true ∧ (readP (vw s c b)).2.1 = gen)) → items = [] ∧ nx = f + 1 ∧ cleanZ s1 [] f z gen 0 (f + 1) = true) :
    ∀ (d k : Nat) (a : Int), (f + z - a).toNat = d → f + 1 ≤ a → a ≤ f + z → d + 30000 ≤ k → (∀ b, f < b → b < a → ¬ ((readP (vw s c b)).2.2.2.2.2 = true ∧ (readP (vw s c b)).2.1 = gen)) →
    armadalaw04_JournalStarts.l0 k gen a s c f z s1 [] gen items nx = some true
  | 0, k, a, hd, h0, h1, hk, hp => by
    obtain ⟨k, rfl⟩ : ∃ k', k = k' + 1 := ⟨k - 1, by omega⟩
    have hch := (checkB_iff f z).1 hcc
    have ha : a = f + z := by omega
    subst ha
    obtain ⟨e1, e2, e3⟩ := hfin hp
    subst e1
    subst e2
    rw [armadalaw04_JournalStarts.l0, w64 (x := f + z) (by omega) (by omega), if_neg (by omega), if_pos (show (([] : List ByteArray).length : Int) = 0 from rfl), w64 (x := f + 1) (by omega) (by omega), if_pos rfl, clean_f f z s1 [] gen [] (f + 1) (by omega) (by simp) k (by omega)]
    simp only [Option.bind_some]
    rw [if_pos (show cleanZ s1 [] f z gen (([] : List ByteArray).length : Int) (f + 1) = true from e3), live_f k (by omega)]; rfl
  | d + 1, k, a, hd, h0, h1, hk, hp => by
    obtain ⟨k, rfl⟩ : ∃ k', k = k' + 1 := ⟨k - 1, by omega⟩
    have hch := (checkB_iff f z).1 hcc
    rw [armadalaw04_JournalStarts.l0, w64 (x := f + z) (by omega) (by omega), if_pos (by omega), rget_f s c a (by omega) (by omega) k (by omega)]
    simp only [Option.bind_some]
    rw [show (getZ s c a).1 = vw s c a from rfl, refRead_spec _ k (by omega)]
    simp only [Option.bind_some]
    rw [w64 (x := a + 1) (by omega) (by omega)]
    have go : ¬ ((readP (vw s c a)).2.2.2.2.2 = true ∧ (readP (vw s c a)).2.1 = gen) → armadalaw04_JournalStarts.l0 k gen (a + 1) s c f z s1 [] gen items nx = some true := by
      intro hn
      refine starts_l0 s c f z gen s1 items nx hs hc hs1 hcc hfin d k (a + 1) (by omega) (by omega) (by omega) (by omega) (fun b hb1 hb2 => ?_)
      by_cases hb : b = a
      · subst hb; exact hn
      · exact hp b hb1 (by omega)
    by_cases g1 : (readP (vw s c a)).2.2.2.2.2 = true
    · rw [if_pos g1]
      by_cases g2 : (readP (vw s c a)).2.1 = gen
      · rw [if_pos g2, live_f k (by omega)]; rfl
      · rw [if_neg g2]; exact go (fun q => g2 q.2)
    · rw [if_neg g1]; exact go (fun q => g1 q.1)
theorem starts_j0t (k : Nat) (s : List ByteArray) (c : Cache) (f z gen : Int) (hk : 30000 ≤ k) : armadalaw04_JournalStarts.j0 (k + 1) gen true s c f z = some true := by
  rw [armadalaw04_JournalStarts.j0, if_pos rfl, live_f k (by omega)]; rfl
theorem starts_j0 (k : Nat) (s : List ByteArray) (c : Cache) (f z gen : Int) (hs : s.length ≤ 600) (hc : c.length ≤ 200) (hl : liesB f z s c = true) (hk : 40000 ≤ k) : armadalaw04_JournalStarts.j0 (k + 1) gen false s c f z = some true := by
  obtain ⟨hcc, hm, hle⟩ := liesB_true hl
  have hch := (checkB_iff f z).1 hcc
  rw [armadalaw04_JournalStarts.j0, if_neg (by decide), start_f f z gen k (by omega) hcc]
  simp only [Option.bind_some]
  have no : ∀ k', 30000 ≤ k' → armadalaw04_JournalStarts.j1 (k' + 1) gen [] 1 false s c f z = some true := by
    intro k' hk'
    rw [armadalaw04_JournalStarts.j1, if_neg (by decide), if_neg (by decide), live_f k' (by omega)]; rfl
  obtain ⟨k, rfl⟩ : ∃ k2, k = k2 + 1 := ⟨k - 1, by omega⟩
  by_cases hg : 0 ≤ gen ∧ gen ≤ 1073741824
  rotate_left
  · rw [if_neg hg]
    simp only []
    by_cases h0 : gen ≥ 0
    · rw [if_pos h0, decide_eq_false (show ¬ gen ≤ 1073741824 by omega)]; exact no k (by omega)
    · rw [if_neg h0]; exact no k (by omega)
  rw [if_pos hg]
  simp only []
  rw [if_pos (show gen ≥ 0 by omega), decide_eq_true hg.2]
  change armadalaw04_JournalStarts.j1 (k + 1) gen _ 0 false s c f z = some true
  rw [armadalaw04_JournalStarts.j1, if_neg (by decide), if_pos rfl]
  obtain ⟨s', hr, hm', hlen, hf, hE⟩ := start_run s c f gen hm (by omega) (by omega)
  rw [run_f s c _ _ (by omega) (by omega) (by simp) k (by simp; omega)]
  simp only [Option.bind_some]
  rw [show List.take (((([⟨false, f, begT gen⟩, ⟨true, 0, ⟨#[]⟩⟩] : List S85).length : Int)).toNat) ([⟨false, f, begT gen⟩, ⟨true, 0, ⟨#[]⟩⟩] : List S85) = [⟨false, f, begT gen⟩, ⟨true, 0, ⟨#[]⟩⟩] from rfl, hr]
  simp only []
  rw [open_f f z s' [] (by omega) (by simp) k (by omega)]
  simp only [Option.bind_some]
  have hl' : liesB f z s' [] = true := by unfold liesB; rw [hcc, hm', decide_eq_true (show f + z ≤ (s'.length : Int) by omega)]; rfl
  have hO : openZ s' [] f z = (gen, (scan (vw s' []) (f + z) gen 600 [] (f + 1)).1, (scan (vw s' []) (f + z) gen 600 [] (f + 1)).2, 0) := by
    unfold openZ openP
    rw [if_pos hl', hf, if_pos (beg_is hg), begRead hg]
  rw [hO]
  simp only []
  rw [if_pos trivial, if_pos trivial, if_pos trivial]
  obtain ⟨k, rfl⟩ : ∃ k2, k = k2 + 1 := ⟨k - 1, by omega⟩
  rw [armadalaw04_JournalStarts.j2, if_neg (by decide), w64 (x := f + 1) (by omega) (by omega)]
  refine starts_l0 s c f z gen s' _ _ hs hc (by omega) hcc (fun hb => ?_) _ k (f + 1) rfl (by omega) (by omega) (by omega) (fun b h1 h2 => by omega)
  have hL := start_log (E := vw s' []) (f := f) (e := f + z) (gen := gen) (by omega) hg hf (fun b h1 h2 => by rw [hE b (by omega)]; exact hb b h1 h2)
  obtain ⟨-, -, h3, h4⟩ := hL
  rw [h3]
  exact ⟨rfl, rfl, (cleanZ_iff hl' (by omega) (by omega)).2 h4⟩
theorem JournalStarts (s : List ByteArray) (c : Cache) (f z gen : Int) (hs : s.length ≤ 9223372036854775807) (hc : c.length ≤ 9223372036854775807) : ∃ k, armadalaw04_JournalStarts.f k s c f z gen = some true := by
  refine ⟨s.length + c.length + 40000 + 1, ?_⟩
  unfold armadalaw04_JournalStarts.f
  rw [small_f s c hs hc _ (by omega)]
  simp only [Option.bind_some]
  by_cases hm : smallB s c = true
  rotate_left
  · rw [if_neg hm]; exact starts_j0t _ s c f z gen (by omega)
  obtain ⟨l1, l2, -, -⟩ := smallB_lim hm
  rw [if_pos hm, rlies_f f z s c (by omega) (by omega) _ (by omega)]
  simp only [Option.bind_some]
  by_cases hl : liesB f z s c = true
  · rw [hl]; exact starts_j0 _ s c f z gen l1 l2 hl (by omega)
  · rw [Bool.eq_false_iff.2 hl]; exact starts_j0t _ s c f z gen (by omega)
end Go.Proofs.Ythoddglnfdmdeaa.Pure
