/- The document's blocks, texts, pads and digits are the program's. -/
import Derived.Test.YtkejacgedipoeaaDRef3
namespace Go.Proofs.Ytkejacgedipoeaa.P
open Go.RowKit Go.Proofs.YtkejacgedipoeaaW.PrintWords Go.Proofs.YtkejacgedipoeaaW.PrintLast Go.Proofs.YtkejacgedipoeaaW.PrintMore Go.Proofs.Ytkejacgedipoeaa.Pl

theorem and255 (x : Int) (h0 : 0 ≤ x) (h1 : x < 9223372036854775808) : Go.bits .and .i64 x 255 % 256 = x % 256 := by
  have := bits_mask .i64 63 (by decide) (fun n h0 h1 => by rw [IntKind.wrap_i64]; omega) 8 (by decide) x h0 h1
  rw [show ((2 : Int) ^ 8 - 1) = 255 from rfl, show ((2 : Int) ^ 8) = 256 from rfl] at this
  rw [this]; omega
theorem four_is (x : Int) (h : Wd x) : ([x / 16777216 % 256, Go.bits .and .i64 (x / 65536) 255 % 256, Go.bits .and .i64 (x / 256) 255 % 256, Go.bits .and .i64 x 255 % 256] : List Int) = bytes4 x := by
  unfold Wd at h
  rw [and255 _ (by omega) (by omega), and255 _ (by omega) (by omega), and255 _ (by omega) (by omega)]
  rfl
theorem bytes_l0 (l : List Int) (hl : l.length = 8) (hw : ∀ i, Wd (l.getD i 0)) (d : Nat) : ∀ (i k : Nat), i + d = 8 → 1 ≤ k →
    armadaref12_Bytes.l0 (k + d) l (bytesTo l i) (i : Int) = some (strOfNums (bytesTo l 8)) := by
  induction d with
  | zero =>
    intro i k hi hk
    obtain ⟨k, rfl⟩ : ∃ q, k = q + 1 := ⟨k - 1, by omega⟩
    obtain rfl : i = 8 := by omega
    rw [Nat.add_zero, armadaref12_Bytes.l0, hl, if_neg (by decide)]
  | succ d ih =>
    intro i k hi hk
    have c0 : (i : Int) < (l.length : Int) := by omega
    have a1 : wrap64 ((i : Int) + 1) = ((i + 1 : Nat) : Int) := by unfold wrap64; omega
    have c3 : (bytesTo l i).length + (bytes4 (l.getD i 0)).length < 140737488355328 := by rw [bytesTo_length]; show 4 * i + 4 < _; omega
    have hgo := ih (i + 1) k (by omega) hk
    rw [bytesTo] at hgo
    have e := four_is _ (hw i)
    rw [← Nat.add_assoc, armadaref12_Bytes.l0, if_pos c0, if_pos (Int.natCast_nonneg _), rd_nat, Option.bind_some, e, if_pos c3, a1, hgo]
theorem bytes_is {v : V8} (hv : Wd8 v) (k : Nat) (hk : 10 ≤ k) : armadaref12_Bytes.f k v.list = some (strOfNums (bytesTo v.list 8)) := by
  have h := bytes_l0 v.list rfl (list_wd hv) 8 0 (k - 8) rfl (by omega)
  rw [show k - 8 + 8 = k by omega] at h
  exact h
theorem hlist_is : armadaref12_H.f = some startV.list := rfl
theorem klist_is : armadaref12_K.f = some kList := rfl
theorem words_eight (s : ByteArray) : wordsN s 8 = (wordsV s).list := rfl
theorem wordsV_wd (s : ByteArray) (hs : s.size = 32) : Wd8 (wordsV s) :=
  ⟨word_wd s 0 (by omega) (by omega), word_wd s 1 (by omega) (by omega), word_wd s 2 (by omega) (by omega), word_wd s 3 (by omega) (by omega), word_wd s 4 (by omega) (by omega), word_wd s 5 (by omega) (by omega), word_wd s 6 (by omega) (by omega), word_wd s 7 (by omega) (by omega)⟩
theorem refBlock_is (a b : ByteArray) (k : Nat) (hk : 210 ≤ k) : armadaref12_Block.f k a b = digest_Block.f a b := by
  obtain ⟨k, rfl⟩ : ∃ q, k = q + 1 := ⟨k - 1, by omega⟩
  unfold armadaref12_Block.f digest_Block.f
  by_cases ha : a.size = 32
  · have ha' : (a.size : Int) = 32 := by omega
    rw [if_pos ha']
    by_cases hb : b.size = 64
    · have hb' : ((b.size : Int) != 64) = false := by rw [hb]; rfl
      rw [if_pos ⟨ha, hb⟩, hb', armadaref12_Block.j0, if_neg (by decide), words_is a 8 (by omega) (by omega) k (by omega), Option.bind_some, words_is b 16 (by omega) (by omega) k (by omega), Option.bind_some, klist_is, Option.bind_some]
      rw [words_eight, rolled_is b hb (wordsV a) (wordsV_wd a ha) k (by omega), Option.bind_some, bytes_is (rolledV_wd b) k (by omega), Option.bind_some]
    · have hb' : ((b.size : Int) != 64) = true := by simp; omega
      rw [if_neg (fun h => hb h.2), hb', armadaref12_Block.j0, if_pos rfl]
  · have ha' : ¬ (a.size : Int) = 32 := by omega
    rw [if_neg ha', if_neg (fun h => ha h.1), armadaref12_Block.j0, if_pos rfl]
theorem startV_wd : Wd8 startV := by constructor <;> (unfold Wd startV; decide)
theorem ofV_wd (T : ByteArray) (i : Nat) : Wd8 (ofV T i) := by
  cases i with
  | zero => exact startV_wd
  | succ i => exact rolledV_wd _
theorem of_l0 (T : ByteArray) (m : Nat) (hT : T.size = 64 * m) (hm : T.size ≤ 2000000000000) (d : Nat) : ∀ (i k : Nat), i + d = m → 210 ≤ k →
    armadaref12_Of.l0 (k + d) (ofV T i).list kList T (64 * (i : Int)) = some (strOfNums (bytesTo (ofV T m).list 8)) := by
  induction d with
  | zero =>
    intro i k hi hk
    obtain ⟨k, rfl⟩ : ∃ q, k = q + 1 := ⟨k - 1, by omega⟩
    obtain rfl : i = m := by omega
    rw [Nat.add_zero, armadaref12_Of.l0, if_neg (by omega), bytes_is (ofV_wd T i) k (by omega), Option.bind_some]
  | succ d ih =>
    intro i k hi hk
    have c0 : 64 * (i : Int) < (T.size : Int) := by omega
    have c1 : 0 ≤ 64 * (i : Int) := by omega
    have a1 : wrap64 (64 * (i : Int) + 64) = 64 * ((i + 1 : Nat) : Int) := by unfold wrap64; omega
    have c2 : 64 * (i : Int) ≤ 64 * ((i + 1 : Nat) : Int) := by omega
    have c3 : 64 * ((i + 1 : Nat) : Int) ≤ (T.size : Int) := by omega
    have hb := blk_size T i (by omega)
    have e1 : (64 * (i : Int)).toNat = 64 * i := by omega
    have e2 : (64 * ((i + 1 : Nat) : Int)).toNat = 64 * i + 64 := by omega
    have hk2 : 210 ≤ k + d := by omega
    have hgo := ih (i + 1) k (by omega) hk
    rw [ofV] at hgo
    rw [← Nat.add_assoc, armadaref12_Of.l0, if_pos c0, if_pos c1, a1, if_pos c2, if_pos c3, e1, e2]
    rw [show T.extract (64 * i) (64 * i + 64) = blk T i from rfl, words_is (blk T i) 16 (by omega) (by omega) (k + d) (by omega), Option.bind_some]
    rw [rolled_is (blk T i) hb (ofV T i) (ofV_wd T i) (k + d) (by omega), Option.bind_some, hgo]
theorem pad_l0 (n : Int) (h0 : 0 ≤ n) (h1 : n ≤ 1099511627776) (d : Nat) : ∀ (j k : Nat), j + d = zeroCount n →
    armadaref12_Pad.l0 (k + d + 1) n (128 :: List.replicate j 0) = armadaref12_Pad.l1 k n (padHead n) 7 := by
  have hz : (zeroCount n : Int) = (119 - n % 64) % 64 := by unfold zeroCount; omega
  have hlt := zeroCount_lt n
  induction d with
  | zero =>
    intro j k hj
    have hlen : (((128 : Int) :: List.replicate j 0).length : Int) = (j : Int) + 1 := by simp
    rw [armadaref12_Pad.l0, hlen, w64 (x := n + ((j : Int) + 1)) (by omega) (by omega), w64 (by omega) (by omega), tmod_pos (by omega), if_pos (by omega), padHead, ← hj]
    rfl
  | succ d ih =>
    intro j k hj
    have hlen : (((128 : Int) :: List.replicate j 0).length : Int) = (j : Int) + 1 := by simp
    have hgo := ih (j + 1) k (by omega)
    have hc : ((128 : Int) :: List.replicate j 0) ++ [0] = 128 :: List.replicate (j + 1) 0 := by rw [List.replicate_succ', List.cons_append]
    rw [← Nat.add_assoc k d 1, armadaref12_Pad.l0, hlen, w64 (x := n + ((j : Int) + 1)) (by omega) (by omega), w64 (by omega) (by omega), tmod_pos (by omega), if_neg (by omega), if_pos (by rw [List.length_cons, List.length_replicate]; omega), hc, hgo]
theorem pad_l1 (n : Int) (h0 : 0 ≤ n) (h1 : n ≤ 1099511627776) (d : Nat) : ∀ (j k : Nat), j + d = 8 →
    armadaref12_Pad.l1 (k + d + 1) n (padTo n j) (7 - (j : Int)) = some (strOfNums (padTo n 8)) := by
  induction d with
  | zero =>
    intro j k hj
    obtain rfl : j = 8 := by omega
    rw [armadaref12_Pad.l1, if_neg (by decide)]
  | succ d ih =>
    intro j k hj
    have a1 : wrap64 (8 * (7 - (j : Int))) = ((56 - 8 * j : Nat) : Int) := by unfold wrap64; omega
    have a2 : wrap64 (8 * n) = 8 * n := w64 (by omega) (by omega)
    have a3 : wrap64 (7 - (j : Int) - 1) = 7 - ((j + 1 : Nat) : Int) := by unfold wrap64; omega
    have c0 : 7 - (j : Int) ≥ 0 := by omega
    have hlt := zeroCount_lt n
    have c1 : (padTo n j).length < 140737488355328 := by rw [padTo_length]; omega
    have hs : shr .i64 (8 * n) ((56 - 8 * j : Nat) : Int) = 8 * n / 2 ^ (56 - 8 * j) := by
      unfold shr
      rw [Int.toNat_natCast, show IntKind.i64.bits = 64 from rfl, Nat.min_eq_left (by omega)]
    have hp : (0 : Int) < 2 ^ (56 - 8 * j) := Int.pow_pos (by decide)
    have hr0 : 0 ≤ 8 * n / 2 ^ (56 - 8 * j) := Int.ediv_nonneg (by omega) (Int.le_of_lt hp)
    have hr1 : 8 * n / 2 ^ (56 - 8 * j) ≤ 8 * n := Int.ediv_le_self _ (by omega)
    have hgo := ih (j + 1) k (by omega)
    rw [padTo] at hgo
    rw [← Nat.add_assoc k d 1, armadaref12_Pad.l1, if_pos c0, a1, if_pos (Int.natCast_nonneg _), if_pos c1, a2, hs, and255 _ hr0 (by omega), a3, hgo]
theorem refPad_is (n : Int) (k : Nat) (hk : 100 ≤ k) : armadaref12_Pad.f k n = digest_Pad.f n := by
  obtain ⟨k, rfl⟩ : ∃ q, k = q + 1 := ⟨k - 1, by omega⟩
  unfold armadaref12_Pad.f digest_Pad.f
  by_cases h0 : n < 0
  · rw [if_pos h0, if_pos (Or.inl h0), armadaref12_Pad.j0, if_pos rfl]
  · by_cases h1 : 1099511627776 < n
    · rw [if_neg h0, if_pos (Or.inr h1), show decide (n > 1099511627776) = true from decide_eq_true h1, armadaref12_Pad.j0, if_pos rfl]
    · have hlt := zeroCount_lt n
      rw [if_neg h0, if_neg (by omega), show decide (n > 1099511627776) = false from decide_eq_false (by omega), armadaref12_Pad.j0, if_neg (by decide)]
      have e1 : k = (k - zeroCount n - 1) + zeroCount n + 1 := by omega
      have e2 : k - zeroCount n - 1 = (k - zeroCount n - 10) + 8 + 1 := by omega
      have p0 := pad_l0 n (by omega) (by omega) (zeroCount n) 0 (k - zeroCount n - 1) (by omega)
      have p1 := pad_l1 n (by omega) (by omega) 8 0 (k - zeroCount n - 10) (by omega)
      rw [← e1] at p0
      rw [← e2] at p1
      exact p0.trans p1
theorem refOf_is (s : ByteArray) (hs : s.size ≤ 1099511627776) (k : Nat) (hk : 400 + s.size ≤ k) : armadaref12_Of.f k s = digest_Of.f s := by
  have hp := padded_size s
  have hlt := zeroCount_lt (s.size : Int)
  unfold armadaref12_Of.f digest_Of.f
  rw [if_pos hs, hlist_is, Option.bind_some, klist_is, Option.bind_some, refPad_is _ k (by omega)]
  have hq : digest_Pad.f (s.size : Int) = some (strOfNums (padTo (s.size : Int) 8)) := by
    unfold digest_Pad.f
    rw [if_neg (by omega)]
  rw [hq, Option.bind_some, if_pos (by rw [strOfNums_size, padTo_length]; omega)]
  have h := of_l0 (padded s) ((padded s).size / 64) (by omega) (by omega) ((padded s).size / 64) 0 (k - (padded s).size / 64) (by omega) (by omega)
  rw [show k - (padded s).size / 64 + (padded s).size / 64 = k by omega] at h
  exact h
theorem hex_l0 (s : ByteArray) (hs : s.size ≤ 70000000000000) (d : Nat) : ∀ (i k : Nat), i + d = s.size → 1 ≤ k →
    armadaref12_Hex.l0 (k + d) s digs (hexTo s i) (i : Int) = some (strOfNums (hexTo s s.size)) := by
  induction d with
  | zero =>
    intro i k hi hk
    obtain ⟨k, rfl⟩ : ∃ q, k = q + 1 := ⟨k - 1, by omega⟩
    have e : i = s.size := by omega
    rw [Nat.add_zero, armadaref12_Hex.l0, if_neg (by omega), e]
  | succ d ih =>
    intro i k hi hk
    have c0 : (i : Int) < (s.size : Int) := by omega
    have a1 : wrap64 ((i : Int) + 1) = ((i + 1 : Nat) : Int) := by unfold wrap64; omega
    have hr := bt_range s (i : Int)
    have hgo := ih (i + 1) k (by omega) hk
    rw [hexTo] at hgo
    have hd : (digs.size : Int) = 16 := rfl
    have t1 : Int.tdiv (bt s (i : Int)) 16 % 256 = bt s (i : Int) / 16 := by rw [tdiv_pos hr.1]; omega
    have t2 : Int.tmod (bt s (i : Int)) 16 = bt s (i : Int) % 16 := tmod_pos hr.1 _
    have b1 : 0 ≤ bt s (i : Int) / 16 := by omega
    have b2 : bt s (i : Int) / 16 < 16 := by omega
    have b3 : 0 ≤ bt s (i : Int) % 16 := by omega
    have b4 : bt s (i : Int) % 16 < 16 := by omega
    have c3 : (hexTo s i).length + ([bt digs (bt s (i : Int) / 16), bt digs (bt s (i : Int) % 16)] : List Int).length < 140737488355328 := by rw [hexTo_length]; show 2 * i + 2 < _; omega
    rw [← Nat.add_assoc, armadaref12_Hex.l0, if_pos c0, if_pos (Int.natCast_nonneg _), t1, t2, hd, if_pos b1, if_pos b2, if_pos b3, if_pos b4, Option.bind_some, if_pos c3, a1]
    exact hgo
theorem refHex_is (s : ByteArray) (hs : s.size ≤ 70000000000000) (k : Nat) (hk : s.size < k) : armadaref12_Hex.f k s = digest_Hex.f s := by
  unfold armadaref12_Hex.f digest_Hex.f
  rw [if_pos hs]
  have h := hex_l0 s hs s.size 0 (k - s.size) (by omega) (by omega)
  rw [show k - s.size + s.size = k by omega] at h
  exact h
end Go.Proofs.Ytkejacgedipoeaa.P
