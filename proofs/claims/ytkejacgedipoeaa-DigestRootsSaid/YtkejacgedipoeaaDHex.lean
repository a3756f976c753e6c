/- digest.Hex, walked by hand over the shelf's builder. -/
import Derived.Test.YtkejacgedipoeaaDShelf
import Derived.Test.YtkejacgedipoeaaDBlock
import Derived.Test.YtkejacgedipoeaaBs
namespace Go.Proofs.Ytkejacgedipoeaa.P
open Go.RowKit Go.Shelf Go.Proofs.YtkejacgedipoeaaW.PrintWords Go.Proofs.YtkejacgedipoeaaW.PrintLast Go.Proofs.YtkejacgedipoeaaW.PrintMore Go.Proofs.Ytkejacgedipoeaa.Pl
set_option linter.unusedVariables false
set_option linter.unusedSimpArgs false
/-- A builder that holds these bytes, in a block of its own. -/
def Bld (w0 : World) (g : Nat) (xs : List Int) (w : World) : Prop := Lib.IsBuilder 46 5 w0.heap.size g (xs.map (Value.int .u8)) w ∧ Below w0.heap.size w0 w ∧ ∀ c ∈ xs, 0 ≤ c ∧ c ≤ 255
theorem Bld.new (w : World) : Bld w w.heap.size [] (w.alloc (.cells #[.pointer none, .slice none 0 0] 46)) :=
  ⟨Lib.fresh_isBuilder 46 5 w, (Below.refl _ w).alloc (Nat.le_refl _) _, by simp⟩
theorem Bld.byte {w0 w : World} {g : Nat} {xs : List Int} (h : Bld w0 g xs w) (c : Int) (hc : 0 ≤ c ∧ c ≤ 255) (hl : xs.length + 1 ≤ 140737488355328) :
    Calls Try.prog 27 #[.pointer (some ⟨g, 0, none⟩), .int .u8 c] w fun e w' => e = .returned .nilIface ∧ Aside0 (Bld w0 g (xs ++ [c]) w') := by
  refine (writeByte w0.heap.size g _ c w h.1 (by rw [List.length_map]; exact hl) h.2.1.size).mono ?_
  rintro e w' ⟨rfl, h1, h2⟩
  refine ⟨rfl, ⟨⟨?_, h.2.1.trans h2, ?_⟩⟩⟩
  · rw [List.map_append]; exact Or.inr h1
  · intro x hx
    rcases List.mem_append.1 hx with h3 | h3
    · exact h.2.2 x h3
    · obtain rfl := List.mem_singleton.1 h3; exact hc
theorem Bld.step {w0 w w' : World} {g : Nat} {xs : List Int} (h : Bld w0 g xs w) (hb : Below w.heap.size w w') : Bld w0 g xs w' := by
  refine ⟨?_, h.2.1.trans (hb.mono h.2.1.size), h.2.2⟩
  have go : ∀ p, Lib.BuilderAt 46 5 w0.heap.size g p (xs.map (Value.int .u8)) w → Lib.BuilderAt 46 5 w0.heap.size g p (xs.map (Value.int .u8)) w' := fun p ⟨hB, v, hv, hown, hne⟩ =>
    ⟨hB, v, (hb.block g (Array.getElem?_eq_some_iff.1 hv).1).trans hv, pw_own_below hown hb, hne⟩
  exact h.1.elim (fun x => Or.inl (go _ x)) (fun x => Or.inr (go _ x))
theorem cells_nums (xs : List Int) (h : ∀ c ∈ xs, 0 ≤ c ∧ c ≤ 255) : Lib.byteCells (strOfNums xs).data.toList = xs.map (Value.int .u8) := by
  have := bs_strOfNums xs h
  unfold bs at this
  unfold Lib.byteCells
  rw [← this, List.map_map]
  rw [this]
  rfl
theorem Bld.string {w0 w : World} {g : Nat} {xs : List Int} (h : Bld w0 g xs w) :
    Calls Try.prog 28 #[.pointer (some ⟨g, 0, none⟩)] w fun e w' => e = .returned (.string (strOfNums xs)) ∧ Aside0 (Below w0.heap.size w0 w') := by
  have h1 := h.1
  rw [← cells_nums xs h.2.2] at h1
  refine (Try.Builder_String_any w0.heap.size g _ w h1 h.2.1.size).mono ?_
  rintro e w' ⟨rfl, h2⟩
  exact ⟨by rw [Array.toArray_toList], ⟨h.2.1.trans h2⟩⟩
theorem Bld.text {w0 w : World} {g : Nat} {xs : List Int} (h : Bld w0 g xs w) (ys : List Int) (hy : ∀ c ∈ ys, 0 ≤ c ∧ c ≤ 255) (hl : xs.length + ys.length ≤ 140737488355328) :
    Calls Try.prog 29 #[.pointer (some ⟨g, 0, none⟩), .string (strOfNums ys)] w fun e w' => (∃ n : Int, e = .returned (.tuple #[.int .i64 n, .nilIface])) ∧ Aside0 (Bld w0 g (xs ++ ys) w') := by
  have hz : (strOfNums ys).size = ys.length := by simp [strOfNums, ByteArray.size]
  refine (writeString w0.heap.size g _ (strOfNums ys) w h.1 (by rw [List.length_map, hz]; exact hl) h.2.1.size).mono ?_
  rintro e w' ⟨rfl, h1, h2⟩
  refine ⟨⟨_, rfl⟩, ⟨⟨?_, h.2.1.trans h2, ?_⟩⟩⟩
  · rw [List.map_append, ← cells_nums ys hy]; exact Or.inr h1
  · intro x hx
    rcases List.mem_append.1 hx with h3 | h3
    · exact h.2.2 x h3
    · exact hy x h3

def digs : ByteArray := ⟨#[48, 49, 50, 51, 52, 53, 54, 55, 56, 57, 97, 98, 99, 100, 101, 102]⟩
def dig (n : Int) : Int := bt digs n
def hexTo (s : ByteArray) : Nat → List Int
  | 0 => []
  | i + 1 => hexTo s i ++ [dig (bt s (i : Int) / 16), dig (bt s (i : Int) % 16)]
theorem dig_range (n : Nat) (h : n < 16) : 0 ≤ dig (n : Int) ∧ dig (n : Int) ≤ 255 := by
  have : ∀ n : Fin 16, 0 ≤ dig (n.val : Int) ∧ dig (n.val : Int) ≤ 255 := by decide +kernel
  exact this ⟨n, h⟩
theorem wrap_i (i : Int) (h0 : 0 ≤ i) (h1 : i ≤ 1000000000000000) : wrap64 (i + 1) = i + 1 := by unfold wrap64; omega
theorem hexTo_length (s : ByteArray) (i : Nat) : (hexTo s i).length = 2 * i := by
  induction i with
  | zero => rfl
  | succ i ih => simp only [hexTo, List.length_append, ih, List.length_cons, List.length_nil]; omega
def digest_Hex.f (a0 : ByteArray) : Option ByteArray := if a0.size ≤ 70000000000000 then some (strOfNums (hexTo a0 a0.size)) else none
set_option maxHeartbeats 8000000 in
set_option maxRecDepth 100000 in
theorem hex_walk (s : ByteArray) (w : World) (hs : s.size ≤ 70000000000000) : Calls Try.prog 13 #[.string s] w fun e w' => e = .returned (.string (strOfNums (hexTo s s.size))) ∧ Below w.heap.size w w' := by
  have hn := Aside0.mk (Bld.new w)
  have hS := Aside0.mk hs
  clear hs
  go_enter Try.func13, Try.ntmps13
  go_wp2
  go_loopg [7] s.size (fun kq v7 w' => ∃ i : Nat, v7 = .int .i64 (i : Int) ∧ Aside0 (kq + i = s.size) ∧ Aside0 (Bld w w.heap.size (hexTo s i) w'))
  case atStart => exact ⟨0, rfl, ⟨rfl⟩, hn⟩
  case round =>
    clear hn
    obtain ⟨i, rfl, HK, HO⟩ := hrel
    cases gk with
    | zero =>
      have hi := HK.out
      obtain rfl : i = s.size := by omega
      have c0 : decide (s.size < s.size) = false := decide_eq_false (by omega)
      have c1 : decide ((s.size : Int) < (s.size : Int)) = false := decide_eq_false (by omega)
      clear hi
      go_wp2_with (go_at_call 28; (with_reducible refine (Bld.string HO.out).mono ?_); rintro e w2 ⟨rfl, hb2⟩)
      go_ret
      exact ⟨rfl, hb2.out⟩
    | succ k1 =>
      have hi : Aside0 (i < s.size) := ⟨by have := HK.out; omega⟩
      have c0 : decide (i < s.size) = true := decide_eq_true hi.out
      have c1 : decide ((i : Int) < (s.size : Int)) = true := decide_eq_true (by have := hi.out; omega)
      have hx : 0 ≤ (i : Int) ∧ (i : Int) < (s.size : Int) := ⟨by omega, by have := hi.out; omega⟩
      have hlt : i < s.size := hi.out
      obtain ⟨b, hb⟩ : ∃ b, ((s[i]'hlt).toNat : Int) = b := ⟨_, rfl⟩
      have hb0 : Aside0 (b = bt s (i : Int)) := ⟨by rw [← hb]; exact bt_at s (i : Int) hlt⟩
      have hr : Aside0 (0 ≤ b ∧ b ≤ 255) := ⟨by rw [hb0.out]; exact bt_range s _⟩
      have hm : Go.bits .and .u8 b 15 = b % 16 := (bits_mask .u8 8 (by decide) wraps_u8 4 (by decide) b hr.out.1 (by have := hr.out.2; omega))
      have r1 : b / 16 < 16 := by have := hr.out; omega
      have r2 : 0 ≤ b / 16 := by have := hr.out; omega
      have r3 : b % 16 < 16 := by omega
      have r4 : 0 ≤ b % 16 := by omega
      have t1 := bt_at (⟨#[48, 49, 50, 51, 52, 53, 54, 55, 56, 57, 97, 98, 99, 100, 101, 102]⟩ : ByteArray) (b / 16)
      have t2 := bt_at (⟨#[48, 49, 50, 51, 52, 53, 54, 55, 56, 57, 97, 98, 99, 100, 101, 102]⟩ : ByteArray) (b % 16)
      obtain ⟨d1, hd1⟩ : ∃ d, bt (⟨#[48, 49, 50, 51, 52, 53, 54, 55, 56, 57, 97, 98, 99, 100, 101, 102]⟩ : ByteArray) (b / 16) = d := ⟨_, rfl⟩
      obtain ⟨d2, hd2⟩ : ∃ d, bt (⟨#[48, 49, 50, 51, 52, 53, 54, 55, 56, 57, 97, 98, 99, 100, 101, 102]⟩ : ByteArray) (b % 16) = d := ⟨_, rfl⟩
      rw [hd1] at t1
      rw [hd2] at t2
      have D1 : Aside0 (0 ≤ d1 ∧ d1 ≤ 255) := ⟨by rw [← hd1]; exact bt_range _ _⟩
      have D2 : Aside0 (0 ≤ d2 ∧ d2 ≤ 255) := ⟨by rw [← hd2]; exact bt_range _ _⟩
      have E1 : Aside0 (dig (b / 16) = d1) := ⟨hd1⟩
      have E2 : Aside0 (dig (b % 16) = d2) := ⟨hd2⟩
      clear hd1 hd2
      have hl : Aside0 ((hexTo s i).length = 2 * i) := ⟨hexTo_length s i⟩
      replace r1 := eq_true r1
      replace r2 := eq_true r2
      replace r3 := eq_true r3
      replace r4 := eq_true r4
      go_wp2_with (first
        | (go_at_call 27; (with_reducible refine (Bld.byte HO.out d1 D1.out (by have := hl.out; have := hi.out; have := hS.out; omega)).mono ?_); rintro e w2 ⟨rfl, HO2⟩)
        | (go_at_call 27; (with_reducible refine (Bld.byte HO2.out d2 D2.out (by have := hl.out; have := hi.out; have := hS.out; simp only [List.length_append, List.length_cons, List.length_nil]; omega)).mono ?_); rintro e w3 ⟨rfl, HO3⟩))
      go_roundg k1
      case measure => omega
      case rel =>
        refine ⟨i + 1, (by have h1 := wrap_i (i : Int) (by omega) (by have := hi.out; have := hS.out; omega); rw [h1]; rfl), ⟨by have := HK.out; omega⟩, ⟨?_⟩⟩
        have := HO3.out
        rw [List.append_assoc] at this
        simpa only [hexTo, ← hb0.out, E1.out, E2.out, List.cons_append, List.nil_append] using this
theorem digest_Hex.calls (a0 : ByteArray) (r : ByteArray) (w : World) (h : digest_Hex.f a0 = some r) :
    Calls Try.prog 13 #[.string a0] w fun e w' => e = .returned (.string r) ∧ Below w.heap.size w w' := by
  unfold digest_Hex.f at h
  by_cases c : a0.size ≤ 70000000000000
  · rw [if_pos c] at h
    obtain rfl := Option.some.inj h
    exact hex_walk a0 w c
  · rw [if_neg c] at h
    cases h
end Go.Proofs.Ytkejacgedipoeaa.P
