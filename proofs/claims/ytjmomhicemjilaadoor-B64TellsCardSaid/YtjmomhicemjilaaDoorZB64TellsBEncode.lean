/- b64.Encode: bytes as signs, over the shelf's builder. -/
import Derived.Test.YtjmomhicemjilaaDoorZB64TellsBShelf
import Derived.Test.YtjmomhicemjilaaDoorZB64TellsBGroup
namespace Go.Proofs.YtjmomhicemjilaaDoor.P
open Go.RowKit Go.Shelf Go.Proofs.YtjmomhicemjilaaDoorW.PrintWords Go.Proofs.YtjmomhicemjilaaDoorW.PrintLast Go.Proofs.YtjmomhicemjilaaDoorW.PrintMore Go.Proofs.YtjmomhicemjilaaDoor.Pl
attribute [local go_sem] max2_int min2_int max_two min_two max_three min_three max_four min_four
set_option linter.unusedVariables false
set_option linter.unusedSimpArgs false
/-- The signs of a group's number and of how many bytes. -/
def grpL (x : ByteArray) : List Int :=
  if x.size = 3 then [sgn (bt x 2 + bt x 1 * 256 + bt x 0 * 65536) 0, sgn (bt x 2 + bt x 1 * 256 + bt x 0 * 65536) 1, sgn (bt x 2 + bt x 1 * 256) 2, sgn (bt x 2) 3]
  else if x.size = 2 then [sgn (bt x 1 * 256 + bt x 0 * 65536) 0, sgn (bt x 1 * 256 + bt x 0 * 65536) 1, sgn (bt x 1 * 256) 2, 61]
  else [sgn (bt x 0 * 65536) 0, sgn (bt x 0 * 65536) 1, 61, 61]
def grpB (x : ByteArray) : ByteArray := strOfNums (grpL x)
theorem grpB_size (x : ByteArray) : (grpB x).size = 4 := by
  unfold grpB grpL
  split
  · rfl
  · split <;> rfl
theorem group_calls (x : ByteArray) (h1 : 1 ≤ x.size) (h3 : x.size ≤ 3) (w : World) : Calls Tryd.prog 18 #[.string x] w fun e w' => e = .returned (.string (grpB x)) ∧ Below w.heap.size w w' := by
  unfold grpB grpL
  by_cases c3 : x.size = 3
  · rw [if_pos c3]; exact group_three x w c3 _ _ _ rfl rfl rfl
  · rw [if_neg c3]
    by_cases c2 : x.size = 2
    · rw [if_pos c2]; exact group_two x w c2 _ _ rfl rfl
    · rw [if_neg c2]; exact group_one x w (by omega) _ rfl
theorem ext_min (s : ByteArray) (a b : Nat) : s.extract a (min b s.size) = s.extract a b := by
  have h : s = s.extract 0 s.size := ByteArray.extract_zero_size.symm
  conv => rhs; rw [h, ByteArray.extract_extract]
  rw [Nat.zero_add, Nat.zero_add]
theorem ext_first (s : ByteArray) (a m : Nat) (hm : min 3 (s.extract a s.size).size = m) : (s.extract a s.size).extract 0 m = s.extract a (a + 3) := by
  rw [ByteArray.extract_extract, Nat.add_zero, ← ext_min s a (a + 3)]
  rw [ByteArray.size_extract] at hm
  by_cases h : a ≤ s.size
  · congr 1; omega
  · have x1 : (s.extract a (min (a + m) s.size)).size = 0 := by rw [ByteArray.size_extract]; omega
    have x2 : (s.extract a (min (a + 3) s.size)).size = 0 := by rw [ByteArray.size_extract]; omega
    rw [ByteArray.size_eq_zero_iff.1 x1, ByteArray.size_eq_zero_iff.1 x2]
theorem ext_rest (s : ByteArray) (a m : Nat) (hm : min 3 (s.extract a s.size).size = m) : (s.extract a s.size).extract m (s.extract a s.size).size = s.extract (a + 3) s.size := by
  rw [ByteArray.size_extract] at hm
  rw [ByteArray.extract_extract, ByteArray.size_extract]
  by_cases h : 3 ≤ s.size - a
  · congr 1 <;> omega
  · have x1 : (s.extract (a + m) (min (a + (min s.size s.size - a)) s.size)).size = 0 := by rw [ByteArray.size_extract]; omega
    have x2 : (s.extract (a + 3) s.size).size = 0 := by rw [ByteArray.size_extract]; omega
    rw [ByteArray.size_eq_zero_iff.1 x1, ByteArray.size_eq_zero_iff.1 x2]
/-- The signs of the first groups. -/
def encTo (s : ByteArray) : Nat → ByteArray
  | 0 => ⟨#[]⟩
  | i + 1 => encTo s i ++ grpB (s.extract (3 * i) (3 * i + 3))
theorem encTo_size (s : ByteArray) (i : Nat) : (encTo s i).size = 4 * i := by
  induction i with
  | zero => rfl
  | succ i ih => rw [encTo, ByteArray.size_append, ih, grpB_size]; omega
def encN (n : Nat) : Nat := (n + 2) / 3
def b64_Encode.f (a0 : ByteArray) : Option ByteArray := if a0.size ≤ 70000000000000 then some (encTo a0 (encN a0.size)) else none
theorem Bld_new (w : World) : BldS w w.heap.size ⟨#[]⟩ (w.alloc (.cells #[.pointer none, .slice none 0 0] 38)) := ⟨Lib.fresh_isBuilder 38 5 w, (Below.refl _ w).alloc (Nat.le_refl _) _⟩
set_option maxHeartbeats 8000000 in
set_option maxRecDepth 100000 in
theorem encode_walk (s : ByteArray) (w : World) (hs : s.size ≤ 70000000000000) : Calls Tryd.prog 10 #[.string s] w fun e w' => e = .returned (.string (encTo s (encN s.size))) ∧ Below w.heap.size w w' := by
  have hn := Aside0.mk (Bld_new w)
  have hS := Aside0.mk hs
  have hz : Aside0 (s.extract (3 * 0) s.size = s) := ⟨by rw [Nat.mul_zero]; exact ByteArray.extract_zero_size⟩
  clear hs
  go_enter Tryd.func10, Tryd.ntmps10
  go_wp2
  go_loopg [0] (encN s.size) (fun kq v0 w' => ∃ i : Nat, v0 = .string (s.extract (3 * i) s.size) ∧ Aside0 (kq + i = encN s.size) ∧ Aside0 (BldS w w.heap.size (encTo s i) w'))
  case atStart => exact ⟨0, by rw [hz.out], ⟨by omega⟩, hn⟩
  case round =>
    clear hn hz
    obtain ⟨i, rfl, HK, HO⟩ := hrel
    have hxs : Aside0 ((s.extract (3 * i) s.size).size = s.size - 3 * i) := ⟨by rw [ByteArray.size_extract]; omega⟩
    obtain ⟨x, hx⟩ : ∃ x, s.extract (3 * i) s.size = x := ⟨_, rfl⟩
    have HX := Aside0.mk hx
    rw [hx] at hxs
    rw [hx]
    clear hx
    cases gk with
    | zero =>
      have hxz : x.size = 0 := by have := HK.out; have := hxs.out; unfold encN at *; omega
      have t0 : x.toList = [] := by rw [ByteArray.size_eq_zero_iff.1 hxz, ByteArray.toList_eq]; rfl
      have t1 : (x.toList != ([] : List UInt8)) = false := by rw [t0]; rfl
      have t2 : x.toList.isEmpty = true := by rw [t0]; rfl
      obtain rfl : i = encN s.size := by have := HK.out; omega
      clear hxz
      replace t0 := Aside0.mk t0
      go_wp2_with (go_at_call 19; (with_reducible refine (BldS.string HO.out).mono ?_); rintro e w2 ⟨rfl, hb2⟩)
      go_ret
      exact ⟨rfl, hb2.out⟩
    | succ k1 =>
      have hxp : Aside0 (0 < x.size) := ⟨by have := HK.out; have := hxs.out; unfold encN at *; omega⟩
      have t0 : x.toList ≠ [] := by
        intro h
        rw [ByteArray.toList_eq] at h
        have h5 : x.data.toList.length = x.size := by rw [Array.length_toList]; rfl
        rw [h] at h5
        have h6 : 0 = x.size := h5
        have h7 := hxp.out
        omega
      have t1 : (x.toList != ([] : List UInt8)) = true := bne_iff_ne.mpr t0
      have t2 : x.toList.isEmpty = false := by simpa using t0
      replace t0 := Aside0.mk t0
      obtain ⟨m, hm0⟩ : ∃ m, min 3 x.size = m := ⟨_, rfl⟩
      have hm : (if (x.size : Int) < 3 then (x.size : Int) else 3) = (m : Int) := by split <;> omega
      have hm1 : 1 ≤ m := by have h7 := hxp.out; rw [← hm0]; omega
      have hm3 : m ≤ 3 := by omega
      have hmx : m ≤ x.size := by omega
      have hmx' : (m : Int) ≤ (x.size : Int) := by omega
      have hm0' : (0 : Int) ≤ (m : Int) := by omega
      replace hm0 := Aside0.mk hm0
      have hgs : Aside0 ((x.extract 0 m).size = m) := ⟨by rw [ByteArray.size_extract]; omega⟩
      have hl : Aside0 ((encTo s i).size + (grpB (x.extract 0 m)).size ≤ 140737488355328) := ⟨by rw [encTo_size, grpB_size]; have := HK.out; have := hS.out; unfold encN at *; omega⟩
      go_wp2_with (first
        | (go_at_call 18; (with_reducible refine (group_calls (x.extract 0 m) (by have := hgs.out; omega) (by have := hgs.out; omega) _).mono ?_); rintro e w2 ⟨rfl, hb2⟩; have HO2 := Aside0.mk (HO.out.step hb2); clear hb2)
        | (go_at_call 17; (with_reducible refine (BldS.text HO2.out (grpB (x.extract 0 m)) hl.out).mono ?_); rintro e w3 ⟨⟨nn, rfl⟩, HO3⟩))
      go_roundg k1
      case measure => omega
      case rel =>
        refine ⟨i + 1, ?_, ⟨by have := HK.out; omega⟩, ⟨?_⟩⟩
        · have h1 := hm0.out
          rw [← HX.out] at h1 ⊢
          have := ext_rest s (3 * i) m h1
          rw [show 3 * (i + 1) = 3 * i + 3 by omega, ← this]
        · have h1 := hm0.out
          have h2 := HO3.out
          rw [← HX.out] at h1 h2
          rw [ext_first s (3 * i) m h1] at h2
          exact h2
theorem b64_Encode.calls (a0 : ByteArray) (r : ByteArray) (w : World) (h : b64_Encode.f a0 = some r) :
    Calls Tryd.prog 10 #[.string a0] w fun e w' => e = .returned (.string r) ∧ Below w.heap.size w w' := by
  unfold b64_Encode.f at h
  by_cases c : a0.size ≤ 70000000000000
  · rw [if_pos c] at h
    obtain rfl := Option.some.inj h
    exact encode_walk a0 w c
  · rw [if_neg c] at h
    cases h
end Go.Proofs.YtjmomhicemjilaaDoor.P
