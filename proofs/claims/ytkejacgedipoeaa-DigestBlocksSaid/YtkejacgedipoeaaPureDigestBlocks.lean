/- What bytes come to is what their blocks come to, one behind the other: for every text (those of more than 4000 bytes are let out by the statement itself). -/
import Derived.Test.YtkejacgedipoeaaPx40
import Derived.Test.YtkejacgedipoeaaDRef4
namespace Go.Proofs.Ytkejacgedipoeaa.Pure
open Go.RowKit Go.Proofs.Ytkejacgedipoeaa.P Go.Proofs.YtkejacgedipoeaaW.PrintWords Go.Proofs.YtkejacgedipoeaaW.PrintLast Go.Proofs.Ytkejacgedipoeaa.Pl
theorem bytesTo_range (l : List Int) (i : Nat) : ∀ c ∈ bytesTo l i, 0 ≤ c ∧ c ≤ 255 := by
  induction i with
  | zero => intro c hc; cases hc
  | succ i ih =>
    intro c hc
    rcases List.mem_append.1 hc with h | h
    · exact ih c h
    · simp only [bytes4, List.mem_cons, List.not_mem_nil, or_false] at h
      omega
theorem four_back (x : Int) (h : Wd x) : x / 16777216 % 256 * 16777216 + x / 65536 % 256 * 65536 + x / 256 % 256 * 256 + x % 256 = x := by unfold Wd at h; omega
def stStr (v : V8) : ByteArray := strOfNums (bytesTo v.list 8)
theorem stStr_size (v : V8) : (stStr v).size = 32 := by unfold stStr; rw [strOfNums_size, bytesTo_length]
theorem bytes_get (l : List Int) (i j m : Nat) (hm : m < 4) (hj : j < i) : (bytesTo l i).getD (4 * j + m) 0 = (bytes4 (l.getD j 0)).getD m 0 := by
  induction i with
  | zero => omega
  | succ i ih =>
    rw [bytesTo, List.getD_eq_getElem?_getD]
    by_cases h : j < i
    · rw [List.getElem?_append_left (by rw [bytesTo_length]; omega), ← List.getD_eq_getElem?_getD, ih h]
    · have e : j = i := by omega
      subst e
      rw [List.getElem?_append_right (by rw [bytesTo_length]; omega), bytesTo_length, show 4 * j + m - 4 * j = m by omega, ← List.getD_eq_getElem?_getD]
theorem word_back (v : V8) (hv : Wd8 v) (j : Nat) (hj : j < 8) : wordL (stStr v) j = v.list.getD j 0 := by
  have hs := stStr_size v
  have hl : (bytesTo v.list 8).length = 32 := bytesTo_length v.list 8
  rw [word_sum (stStr v) j (by omega) (by omega)]
  have h0 := bt_nums (bytesTo v.list 8) (bytesTo_range v.list 8) (4 * j + 0) (by omega)
  have h1 := bt_nums (bytesTo v.list 8) (bytesTo_range v.list 8) (4 * j + 1) (by omega)
  have h2 := bt_nums (bytesTo v.list 8) (bytesTo_range v.list 8) (4 * j + 2) (by omega)
  have h3 := bt_nums (bytesTo v.list 8) (bytesTo_range v.list 8) (4 * j + 3) (by omega)
  rw [bytes_get _ 8 j 0 (by omega) hj] at h0
  rw [bytes_get _ 8 j 1 (by omega) hj] at h1
  rw [bytes_get _ 8 j 2 (by omega) hj] at h2
  rw [bytes_get _ 8 j 3 (by omega) hj] at h3
  have c0 : ((4 * j + 0 : Nat) : Int) = 4 * (j : Int) := by omega
  have c1 : ((4 * j + 1 : Nat) : Int) = 4 * (j : Int) + 1 := by omega
  have c2 : ((4 * j + 2 : Nat) : Int) = 4 * (j : Int) + 2 := by omega
  have c3 : ((4 * j + 3 : Nat) : Int) = 4 * (j : Int) + 3 := by omega
  rw [c0] at h0; rw [c1] at h1; rw [c2] at h2; rw [c3] at h3
  unfold stStr
  rw [h0, h1, h2, h3]
  exact four_back _ (list_wd hv j)
theorem words_back (v : V8) (hv : Wd8 v) : wordsV (stStr v) = v := by
  have w := fun j hj => word_back v hv j hj
  unfold wordsV
  rw [w 0 (by decide), w 1 (by decide), w 2 (by decide), w 3 (by decide), w 4 (by decide), w 5 (by decide), w 6 (by decide), w 7 (by decide)]
  rfl
theorem block_step (T : ByteArray) (i : Nat) (h : 64 * i + 64 ≤ T.size) : digest_Block.f (stStr (ofV T i)) (blk T i) = some (stStr (ofV T (i + 1)), true) := by
  unfold digest_Block.f
  rw [if_pos ⟨stStr_size _, blk_size T i h⟩, words_back _ (ofV_wd T i)]
  rfl
theorem blocks_l0 (s T : ByteArray) (m : Nat) (hT : T.size = 64 * m) (hm : T.size ≤ 2000000000000) (d : Nat) : ∀ (i k : Nat), i + d = m →
    armadalaw12_DigestBlocks.l0 (k + d) s (stStr (ofV T i)) T (64 * (i : Int)) = armadalaw12_DigestBlocks.l0 k s (stStr (ofV T m)) T (64 * (m : Int)) := by
  induction d with
  | zero =>
    intro i k hi
    have e : i = m := by omega
    subst e
    rfl
  | succ d ih =>
    intro i k hi
    have c0 : 64 * (i : Int) < (T.size : Int) := by omega
    have c1 : 0 ≤ 64 * (i : Int) := by omega
    have a1 : wrap64 (64 * (i : Int) + 64) = 64 * ((i + 1 : Nat) : Int) := by unfold wrap64; omega
    have c2 : 64 * (i : Int) ≤ 64 * ((i + 1 : Nat) : Int) := by omega
    have c3 : 64 * ((i + 1 : Nat) : Int) ≤ (T.size : Int) := by omega
    have e1 : (64 * (i : Int)).toNat = 64 * i := by omega
    have e2 : (64 * ((i + 1 : Nat) : Int)).toNat = 64 * i + 64 := by omega
    have hb := block_step T i (by omega)
    have c4 : ((stStr (ofV T (i + 1))).size : Int) = 32 := by rw [stStr_size]; rfl
    have hgo := ih (i + 1) k (by omega)
    rw [← Nat.add_assoc, armadalaw12_DigestBlocks.l0, if_pos c0, if_pos c1, a1, if_pos c2, if_pos c3, e1, e2]
    rw [show T.extract (64 * i) (64 * i + 64) = blk T i from rfl, hb, Option.bind_some, if_pos rfl, if_pos c4, hgo]
theorem DigestBlocks : armadalaw12_DigestBlocks.Pure := by
  intro a ha
  refine ⟨1000, ?_⟩
  have hL := live_bind
  unfold armadalaw12_DigestBlocks.f
  by_cases h1 : (a.size : Int) > 4000
  · rw [if_pos h1]
    exact hL
  · have hp := padded_size a
    have hlt := zeroCount_lt (a.size : Int)
    have hq : digest_Pad.f (a.size : Int) = some (strOfNums (padTo (a.size : Int) 8)) := by
      unfold digest_Pad.f
      rw [if_neg (by omega)]
    obtain ⟨m, hm⟩ : ∃ m, (padded a).size = 64 * m := ⟨_, hp.1⟩
    have hm2 : (padded a).size / 64 = m := by omega
    have hof : digest_Of.f a = some (stStr (ofV (padded a) m)) := by
      unfold digest_Of.f
      rw [if_pos (by omega), hm2]
      rfl
    have hex : digest_Hex.f (stStr (ofV (padded a) m)) = some (strOfNums (hexTo (stStr (ofV (padded a) m)) (stStr (ofV (padded a) m)).size)) := by
      unfold digest_Hex.f
      rw [if_pos (by rw [stStr_size]; omega)]
    have hxs : ((strOfNums (hexTo (stStr (ofV (padded a) m)) (stStr (ofV (padded a) m)).size)).size : Int) = 64 := by rw [strOfNums_size, hexTo_length, stStr_size]; rfl
    have hbl := blocks_l0 a (padded a) m hm (by omega) m 0 (999 - m) (by omega)
    rw [show 999 - m + m = 998 + 1 by omega] at hbl
    have e9 : wrap64 ((a.size : Int) + 9) = (a.size : Int) + 9 := by unfold wrap64; omega
    have cd : decide (((padded a).size : Int) < (a.size : Int) + 9) = false := decide_eq_false (by omega)
    have cm : ((padded a).size : Int) % 64 = 0 := by omega
    have cs : a.size + (strOfNums (padTo (a.size : Int) 8)).size ≤ 9223372036854775807 := by rw [strOfNums_size, padTo_length]; omega
    rw [if_neg h1, hlist_is, Option.bind_some, bytes_is startV_wd 1000 (by omega), Option.bind_some, hq, Option.bind_some, if_pos cs]
    rw [show a ++ strOfNums (padTo (a.size : Int) 8) = padded a from rfl, if_pos cm, e9, cd, armadalaw12_DigestBlocks.j0, if_neg (by decide)]
    refine Eq.trans hbl ?_
    obtain ⟨q, hq9⟩ : ∃ q, 999 - m = q + 1 := ⟨998 - m, by omega⟩
    rw [hq9, armadalaw12_DigestBlocks.l0, if_neg (by omega), hof, Option.bind_some, if_pos rfl, hex, Option.bind_some, if_pos hxs]
    exact hL
end Go.Proofs.Ytkejacgedipoeaa.Pure
