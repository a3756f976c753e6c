/- b64.Decode: signs as bytes again; walked by hand. -/
import Derived.Test.YtjmomhicemjilaaDoorZB64TellsBEncode
namespace Go.Proofs.YtjmomhicemjilaaDoor.P
open Go.RowKit Go.Shelf Go.Proofs.YtjmomhicemjilaaDoorW.PrintWords Go.Proofs.YtjmomhicemjilaaDoorW.PrintLast Go.Proofs.YtjmomhicemjilaaDoorW.PrintMore Go.Proofs.YtjmomhicemjilaaDoor.Pl
attribute [local go_sem] max2_int min2_int max_two min_two max_three min_three max_four min_four
set_option linter.unusedVariables false
set_option linter.unusedSimpArgs false
/-- Signs without the pads behind them. -/
def trimB (t : ByteArray) : ByteArray := ⟨(Lib.trimRightB t.data.toList 61).toArray⟩
theorem dropWhile_le (p : UInt8 → Bool) : ∀ l : List UInt8, (l.dropWhile p).length ≤ l.length
  | [] => Nat.le_refl _
  | a :: l => by
    rw [List.dropWhile_cons]
    split
    · exact Nat.le_trans (dropWhile_le p l) (Nat.le_succ _)
    · exact Nat.le_refl _
theorem trimB_size (t : ByteArray) : (trimB t).size ≤ t.size := by
  unfold trimB Lib.trimRightB
  show (List.toArray _).size ≤ t.data.size
  rw [List.size_toArray, List.length_reverse]
  refine Nat.le_trans (dropWhile_le _ _) ?_
  rw [List.length_reverse, Array.length_toList]
  exact Nat.le_refl _
/-- The number of a sign, below 0: it is none. -/
def dK (c : Int) : Int := Lib.indexByte signsB.data.toList c.toNat.toUInt8
def dN (n k : Int) : Int := n * 64 % 4294967296 + k
def decGo : List Int → Int → Int → List Int → Option (List Int)
  | [], _, _, out => some out
  | c :: r, n, b, out => if dK c < 0 then none else if 8 ≤ b + 6 then decGo r (dN n (dK c)) (b + 6 - 8) (out ++ [dN n (dK c) / 2 ^ (b + 6 - 8).toNat % 256]) else decGo r (dN n (dK c)) (b + 6) out
theorem dK_range (c : Int) : -1 ≤ dK c ∧ dK c < 64 := by
  have h : ∀ (l : List UInt8) (u : UInt8), -1 ≤ Lib.indexByte l u ∧ Lib.indexByte l u < (l.length : Int) ∨ Lib.indexByte l u = -1 := by
    intro l u
    induction l with
    | nil => right; rfl
    | cons a l ih =>
      unfold Lib.indexByte
      by_cases h1 : (a == u) = true
      · rw [if_pos h1]; left; simp
      · rw [if_neg h1]
        by_cases h2 : (Lib.indexByte l u == -1) = true
        · rw [if_pos h2]; right; rfl
        · rw [if_neg h2]
          have h3 : Lib.indexByte l u ≠ -1 := by simpa using h2
          rcases ih with ih | ih
          · left; simp only [List.length_cons]; omega
          · exact absurd ih h3
  have h64 : signsB.data.toList.length = 64 := rfl
  unfold dK
  rcases h signsB.data.toList c.toNat.toUInt8 with h1 | h1
  · rw [h64] at h1; omega
  · omega
theorem or_sign (n k : Int) (h0 : 0 ≤ n) (h1 : n < 4294967296) (h2 : 0 ≤ k) (h3 : k < 64) : Go.bits .or .u32 (n * 64 % 4294967296) k = dN n k :=
  bits_join .u32 32 (by decide) (fun n h0 h1 => by rw [IntKind.wrap_u32]; omega) 6 (n * 64 % 4294967296) k (by omega) (by omega) (by omega) h2 (by omega) (by omega)
theorem dN_range (n k : Int) (h2 : 0 ≤ k) (h3 : k < 64) : 0 ≤ dN n k ∧ dN n k < 4294967296 := by unfold dN; omega
theorem indexSign (c : Int) (w : World) : Calls Tryd.prog 15 #[.string (⟨#[65, 66, 67, 68, 69, 70, 71, 72, 73, 74, 75, 76, 77, 78, 79, 80, 81, 82, 83, 84, 85, 86, 87, 88, 89, 90, 97, 98, 99, 100, 101, 102, 103, 104, 105, 106, 107, 108, 109, 110, 111, 112, 113, 114, 115, 116, 117, 118, 119, 120, 121, 122, 48, 49, 50, 51, 52, 53, 54, 55, 56, 57, 43, 47]⟩ : ByteArray), .int .u8 c] w fun e w' => e = .returned (.int .i64 (dK c)) ∧ w = w' := (Tryd.strings_IndexByte signsB c w).mono fun _ _ ⟨h1, h2⟩ => ⟨h1, h2.symm⟩
theorem trim_calls (t : ByteArray) (ht : t.size ≤ 9223372036854775807) (w : World) : Calls Tryd.prog 14 #[.string t, .string ⟨#[61]⟩] w fun e w' => e = .returned (.string (trimB t)) ∧ w = w' := (Tryd.strings_TrimRight_one t 61 (by decide) w ht).mono fun _ _ ⟨h1, h2⟩ => ⟨h1, h2.symm⟩
theorem BRow.block {w w1 : World} {g n : Nat} {xs : List Int} (h : BRow w g n xs) (hb : w1.heap[g]? = w.heap[g]?) : BRow w1 g n xs :=
  ⟨h.1, h.2.1, fun j hj => ⟨(World.cell?_of_block (a := ⟨g, j, none⟩) hb).trans (h.2.2 j hj).1, by rw [← (h.2.2 j hj).2]; unfold World.frozen?; rw [hb]⟩⟩
set_option maxHeartbeats 8000000 in
set_option maxRecDepth 100000 in
theorem decode_walk (t : ByteArray) (w : World) (ht : t.size ≤ 70000000000000) (res : Option (List Int)) (hres : decGo (bs (trimB t)) 0 0 [] = res) (r1 : ByteArray) (r2 : Bool) (hn : res = none → r1 = ⟨#[]⟩ ∧ r2 = false)
    (hs : ∀ out, res = some out → ∃ en, b64_Encode.f (strOfNums out) = some en ∧ ((en.toList == t.toList) = r2) ∧ r1 = if r2 = true then strOfNums out else ⟨#[]⟩) :
    Calls Tryd.prog 8 #[.string t] w fun e w' => e = .returned (.tuple #[.string r1, .bool r2]) ∧ Below w.heap.size w w' := by
  have hz := trimB_size t
  have kt := fun W => trim_calls t (by omega) W
  obtain ⟨d, hd⟩ : ∃ d, trimB t = d := ⟨_, rfl⟩
  rw [hd] at hz hres kt
  have HT := Aside0.mk ht
  have HTZ := Aside0.mk hz
  have HR := Aside0.mk hres
  have HN := Aside0.mk hn
  have HS := Aside0.mk hs
  replace kt := Aside0.mk kt
  have kb := fun W => print_bytes (P := Tryd.prog) 9 30 5 Tryd.underlying9 Tryd.underlying30 Tryd.underlying5 d W
  have R0 := BRow.new w 5 d (by omega)
  have B0 := bytes_below (Below.refl w.heap.size w) (Nat.le_refl _) 5 d
  have Z0 : Aside0 (w.heap.size < (Lib.bytesWorld w 5 d).heap.size) := ⟨blk_lt (Lib.bytesWorld_at_new w 5 d)⟩
  replace R0 := Aside0.mk R0
  replace B0 := Aside0.mk B0
  clear ht hz hres hn hs hd
  go_enter Tryd.func8, Tryd.ntmps8
  go_wp2_with (go_at_call 14; (with_reducible refine (kt.out _).mono ?_); rintro e w2 ⟨rfl, rfl⟩)
  go_loopg [4, 5, 6, 14] d.size (fun kq v4 v5 v6 v14 w' => ∃ (i : Nat) (n b : Int) (out : List Int), v5 = .int .u32 n ∧ v6 = .int .i64 b ∧ v14 = .int .i64 (i : Int) ∧ Aside0 (kq + i = d.size) ∧ Aside0 (decGo ((bs d).drop i) n b out = res) ∧ Aside0 (0 ≤ n ∧ n < 4294967296 ∧ 0 ≤ b ∧ b ≤ 7 ∧ out.length ≤ i) ∧ Aside0 (BRow w' w.heap.size d.size (bs d)) ∧ Aside0 (Kd.R (Kd.int .u8) 5 w' w.heap.size (fun k => k ≠ w.heap.size) v4 out) ∧ Aside0 (Below w.heap.size w w') ∧ Aside0 (w.heap.size < w'.heap.size))
  case atStart => exact ⟨0, 0, 0, [], rfl, rfl, rfl, ⟨by omega⟩, ⟨by rw [List.drop_zero]; exact HR.out⟩, ⟨by simp⟩, R0, ⟨Kd.R_nil _ _ _ _ _⟩, B0, Z0⟩
  case round =>
    clear R0 B0 Z0 HR kt kb
    obtain ⟨i, n, b, out, rfl, rfl, rfl, HK, HD, HV, R, HO, HB, HZ⟩ := hrel
    cases gk with
    | zero =>
      have d0 : decide ((i : Int) < (d.size : Int)) = false := decide_eq_false (by have := HK.out; omega)
      have d0' : decide (i < d.size) = false := decide_eq_false (by have := HK.out; omega)
      have hres : res = some out := by
        have := HD.out
        rw [List.drop_of_length_le (by rw [bs_length]; have := HK.out; omega), decGo] at this
        exact this.symm
      obtain ⟨en, he1, he2, he3⟩ := HS.out out hres
      replace he1 := Aside0.mk he1
      replace he3 := Aside0.mk he3
      clear hres
      obtain ⟨A4, c4, e4⟩ := Kd.R_slice HO.out
      subst e4
      have kc : ∀ (W : World) (hw : Aside0 (Kd.R (Kd.int .u8) 5 W w.heap.size (fun k => k ≠ w.heap.size) (.slice A4 out.length c4) out)), (convert 30 9 (.slice A4 out.length c4)).run Tryd.prog W = .ok (.string (strOfNums out)) W := fun W hw => Kd.C_string Tryd.underlying30 Tryd.underlying5 Tryd.underlying9 (Kd.R_reads' hw.out).2.2
      have kc1 := kc wr HO
      have he2' : (en.toList != t.toList) = !r2 := by rw [bne, he2]
      cases r2 with
      | true =>
        simp only [Bool.not_true] at he2'
        go_wp2_with (go_at_call 10; (with_reducible refine (b64_Encode.calls (strOfNums out) en _ he1.out).mono ?_); rintro e w3 ⟨rfl, hb3⟩; have kc2 := kc w3 ⟨Kd.R_below HO.out hb3⟩; replace hb3 := Aside0.mk hb3)
        go_ret2
        exact ⟨by rw [he3.out]; rfl, HB.out.trans (hb3.out.mono HB.out.size)⟩
      | false =>
        simp only [Bool.not_false] at he2'
        go_wp2_with (go_at_call 10; (with_reducible refine (b64_Encode.calls (strOfNums out) en _ he1.out).mono ?_); rintro e w3 ⟨rfl, hb3⟩; replace hb3 := Aside0.mk hb3)
        go_ret2
        exact ⟨by rw [he3.out]; rfl, HB.out.trans (hb3.out.mono HB.out.size)⟩
    | succ k1 =>
      have hi : Aside0 (i < d.size) := ⟨by have := HK.out; omega⟩
      have d0 : decide ((i : Int) < (d.size : Int)) = true := decide_eq_true (by have := hi.out; omega)
      have d0' : decide (i < d.size) = true := decide_eq_true hi.out
      have hx : 0 ≤ (i : Int) ∧ (i : Int) < (d.size : Int) := ⟨by omega, by have := hi.out; omega⟩
      have e1 := (R.out.2.2 i hi.out).1
      have hv : (bs d).getD i 0 = bt d (i : Int) := by rw [List.getD_eq_getElem?_getD, List.getElem?_eq_getElem (by rw [bs_length]; exact hi.out), bt_bs d i hi.out]; rfl
      rw [hv] at e1
      have hdrop := Aside0.mk (bs_drop d i hi.out)
      obtain ⟨c, hc⟩ : ∃ c, bt d (i : Int) = c := ⟨_, rfl⟩
      rw [hc] at e1 hdrop
      clear hv hc
      have hkr := dK_range c
      obtain ⟨k, hk⟩ : ∃ k, dK c = k := ⟨_, rfl⟩
      have ki := fun W => indexSign c W
      rw [hk] at hkr ki
      replace ki := Aside0.mk ki
      replace hk := Aside0.mk hk
      by_cases hneg : k < 0
      · have q0 : decide (k < 0) = true := decide_eq_true hneg
        have hrn : res = none := by
          have := HD.out
          rw [hdrop.out, decGo, hk.out, if_pos hneg] at this
          exact this.symm
        obtain ⟨rfl, rfl⟩ := HN.out hrn
        clear hneg hrn
        go_wp2_with (go_at_call 15; (with_reducible refine (ki.out _).mono ?_); rintro e w2 ⟨rfl, rfl⟩)
        go_ret2
        exact ⟨rfl, HB.out⟩
      · have q0 : decide (k < 0) = false := decide_eq_false hneg
        have n0 : 0 ≤ n := HV.out.1
        have n1 : n < 4294967296 := HV.out.2.1
        have b0 : 0 ≤ b := HV.out.2.2.1
        have b1 : b ≤ 7 := HV.out.2.2.2.1
        have k0 : 0 ≤ k := by omega
        have k1' : k < 64 := hkr.2
        have o1 := or_sign n k n0 n1 k0 k1'
        have hr1 := dN_range n k k0 k1'
        obtain ⟨m, hm⟩ : ∃ m, dN n k = m := ⟨_, rfl⟩
        rw [hm] at o1 hr1
        have Hm := Aside0.mk hm
        clear hm hneg
        by_cases h8 : 8 ≤ b + 6
        · have q1 : decide (8 ≤ b + 6) = true := decide_eq_true h8
          have hL : Aside0 (out.length + 1 ≤ 140737488355328) := ⟨by have := HV.out.2.2.2.2; have := hi.out; have := HT.out; have := HTZ.out; omega⟩
          have s0 : 0 ≤ b + 6 - 8 := by omega
          have s1 : b + 6 - 8 < 32 := by omega
          have s2 : b + 6 - 8 ≤ 31 := by omega
          go_wp2_with (first
            | (go_at_call 15; (with_reducible refine (ki.out _).mono ?_); rintro e w2 ⟨rfl, rfl⟩)
            | ((with_reducible refine gate_builtin (b := .append) (xs := #[.tmp 33, .tmp 38]) rfl ?_); at_builtin; refine Kd.R_append (Kd.int .u8) (w0 := w) w.heap.size rfl (.tmp 33) (.tmp 38) 30 5 (.int .u8 0) 1 rfl Tryd.underlying30 info5 rfl (by decide) (by omega) u4 out (m / 2 ^ (b + 6 - 8).toNat % 256) [.int .u8 (m / 2 ^ (b + 6 - 8).toNat % 256)] (fun k => k ≠ w.heap.size) (fun _ => False) rfl rfl ?aP (fun _ hk => hk.elim) ?aF ?aO ?aB ?aS ?aL ?_; (case aP => exact rfl); (case aB => exact HB.out); (case aF => exact (fun k hk => by have := HZ.out; omega)); (case aO => exact HO.out); (case aS => exact HB.out.size); (case aL => have := hL.out; omega); intro v1 w1 ho hb hg hat; have HB1 := Aside0.mk hb; have HO1 := Aside0.mk ho; have R1 : Aside0 (BRow w1 w.heap.size d.size (bs d)) := ⟨BRow.block R.out (hg.block w.heap.size HZ.out (fun he => HO.out.1 _ he.symm rfl))⟩; have HZ1 : Aside0 (w.heap.size < w1.heap.size) := ⟨by have := hg.size; have := HZ.out; omega⟩; clear ho hb hg hat))
          go_roundg k1
          case measure => omega
          case rel =>
            have hw : (i : Int) + 1 = ((i + 1 : Nat) : Int) := by omega
            refine ⟨i + 1, m, b + 6 - 8, out ++ [m / 2 ^ (b + 6 - 8).toNat % 256], rfl, rfl, ?_, ⟨by have := HK.out; omega⟩, ⟨?_⟩, ⟨⟨hr1.1, hr1.2, by omega, by omega, by rw [List.length_append]; have := HV.out.2.2.2.2; simp; omega⟩⟩, R1, HO1, HB1, HZ1⟩
            · rw [w64 (by omega) (by have := hi.out; have := HT.out; have := HTZ.out; omega)]; rfl
            · have := HD.out
              rw [hdrop.out, decGo, hk.out, if_neg (by omega), if_pos h8, Hm.out] at this
              exact this
        · have q1 : decide (8 ≤ b + 6) = false := decide_eq_false h8
          go_wp2_with (go_at_call 15; (with_reducible refine (ki.out _).mono ?_); rintro e w2 ⟨rfl, rfl⟩)
          go_roundg k1
          case measure => omega
          case rel =>
            refine ⟨i + 1, m, b + 6, out, rfl, rfl, ?_, ⟨by have := HK.out; omega⟩, ⟨?_⟩, ⟨⟨hr1.1, hr1.2, by omega, by omega, by have := HV.out.2.2.2.2; omega⟩⟩, R, HO, HB, HZ⟩
            · rw [w64 (by omega) (by have := hi.out; have := HT.out; have := HTZ.out; omega)]; rfl
            · have := HD.out
              rw [hdrop.out, decGo, hk.out, if_neg (by omega), if_neg (by omega), Hm.out] at this
              exact this
def b64_Decode.f (t : ByteArray) : Option (ByteArray × Bool) :=
  if t.size ≤ 70000000000000 then (match decGo (bs (trimB t)) 0 0 [] with
    | none => some (⟨#[]⟩, false)
    | some out => (b64_Encode.f (strOfNums out)).bind fun e => if (e.toList == t.toList) = true then some (strOfNums out, true) else some (⟨#[]⟩, false)) else none
theorem b64_Decode.calls (a0 : ByteArray) (r1 : ByteArray) (r2 : Bool) (w : World) (h : b64_Decode.f a0 = some (r1, r2)) :
    Calls Tryd.prog 8 #[.string a0] w fun e w' => e = .returned (.tuple #[.string r1, .bool r2]) ∧ Below w.heap.size w w' := by
  unfold b64_Decode.f at h
  by_cases c : a0.size ≤ 70000000000000
  · rw [if_pos c] at h
    refine decode_walk a0 w c _ rfl r1 r2 (fun hn => ?_) (fun out hs => ?_)
    · rw [hn] at h
      simp only [Option.some.injEq, Prod.mk.injEq] at h
      exact ⟨h.1.symm, h.2.symm⟩
    · rw [hs] at h
      obtain ⟨e, he, h⟩ := Option.bind_eq_some_iff.mp h
      refine ⟨e, he, ?_⟩
      by_cases hq : (e.toList == a0.toList) = true
      · rw [if_pos hq] at h
        simp only [Option.some.injEq, Prod.mk.injEq] at h
        obtain ⟨rfl, rfl⟩ := h
        exact ⟨hq, by rw [if_pos rfl]⟩
      · rw [if_neg hq] at h
        simp only [Option.some.injEq, Prod.mk.injEq] at h
        obtain ⟨rfl, rfl⟩ := h
        exact ⟨by simpa using hq, by rw [if_neg (by simp)]⟩
  · rw [if_neg c] at h
    cases h
end Go.Proofs.YtjmomhicemjilaaDoor.P
