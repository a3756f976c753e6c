/- rec.Join: sectors are a payload's again; its callees by contract (the shelf's Builder, the printed Cut, Count, slices.Equal). -/
import Derived.Test.YtajgpmeilpjadaaZRecSpoiltShelf
import Derived.Test.YtajgpmeilpjadaaZRecSpoiltGFilled
import Derived.Test.YtajgpmeilpjadaaZRecSpoiltBs
import Derived.Test.YtajgpmeilpjadaaZRecSpoiltM2
import Derived.Test.YtajgpmeilpjadaaZRecSpoiltM0
import Derived.Outline
namespace Go.Proofs.Ytajgpmeilpjadaa.P
open Go.RowKit Go.Shelf Go.Proofs.YtajgpmeilpjadaaW.PrintWords Go.Proofs.YtajgpmeilpjadaaW.PrintLast Go.Proofs.YtajgpmeilpjadaaW.PrintMore
set_option linter.unusedVariables false
set_option linter.unusedSimpArgs false
theorem Builder_WriteString (B b : Nat) (bs : List Value) (s : ByteArray) (w : World) (h : Lib.IsBuilder 56 5 B b bs w) (hlen : bs.length + s.size ≤ 140737488355328) (hBw : B ≤ w.heap.size) :
    Calls Try.prog 34 #[.pointer (some ⟨b, 0, none⟩), .string s] w fun e w' => e = .returned (.tuple #[.int .i64 s.size, .nilIface]) ∧ Lib.BuilderAt 56 5 B b (.pointer (some ⟨b, 0, none⟩)) (bs ++ Lib.strCells s) w' ∧ Below B w w' :=
  Any.Builder_WriteString { Try.lays105 with } Try.Builder_Extra_105 B b bs s w h hlen hBw
/-- Has a list a text of another length than a sector's? -/
def odd32 (l : List ByteArray) : Bool := l.any fun s => s.size != 32
def IdxSome (l : List ByteArray) (w : World) (e : Ending) (w' : World) : Prop := ∃ n : Int, e = .returned (.int .i64 n) ∧ (decide (0 ≤ n) = odd32 l) ∧ Drawn0 w w'
theorem odd_take_succ (l : List ByteArray) (k : Nat) (h : k < l.length) : odd32 (l.take (k + 1)) = (odd32 (l.take k) || ((l.getD k ByteArray.empty).size != 32)) := by
  unfold odd32
  rw [List.take_succ_eq_append_getElem h, List.any_append, List.getD_eq_getElem?_getD, List.getElem?_eq_getElem h]
  simp
theorem odd_of_take (l : List ByteArray) (k : Nat) (h : odd32 (l.take k) = true) : odd32 l = true := by
  unfold odd32 at *
  rw [List.any_eq_true] at *
  obtain ⟨x, hx, h⟩ := h
  exact ⟨x, List.mem_of_mem_take hx, h⟩
set_option maxHeartbeats 800000 in
theorem odd_one (s : ByteArray) (w : World) : Calls Try.prog 33 #[.string s] w fun e w' => e = .returned (.bool (s.size != 32)) ∧ Drawn0 w w' := by
  have hq : ((s.size : Int) != 32) = (s.size != 32) := by
    rw [Bool.eq_iff_iff]
    simp only [bne_iff_ne, ne_eq]
    omega
  go_enter Try.func33, Try.ntmps33
  go_wp2
  go_ret
  exact ⟨by first | rfl | (simp; done) | (rw [← hq]; rfl) | (simp [*]; done), Drawn0.refl _⟩
set_option maxHeartbeats 8000000 in
set_option maxRecDepth 100000 in
theorem index_odd (A : Option Addr) (c : Nat) (l : List ByteArray) (w : World) (hr : Kd.C Kd.string w A l.length l) :
    Calls Try.prog 41 #[.slice A l.length c, .func (.func 33) #[] #[]] w (IdxSome l w) := by
  have HR := Aside0.mk hr
  have hmax : Aside0 (l.length ≤ 9223372036854775807) := ⟨(Kd.reads_of_C (d := ByteArray.empty) hr).2.1⟩
  clear hr
  go_enter Try.func41, Try.ntmps41
  go_wp2
  go_loopg [8] l.length (fun kq v8 w' => ∃ i : Nat, v8 = .int .i64 (i : Int) ∧ Aside0 (kq + i = l.length) ∧ Aside0 (odd32 (l.take i) = false) ∧ Drawn0 w w')
  case atStart => exact ⟨0, rfl, ⟨rfl⟩, ⟨rfl⟩, Drawn0.refl _⟩
  case round =>
    obtain ⟨i, rfl, HK, HO, ⟨m1, rfl⟩⟩ := hrel
    cases gk with
    | zero =>
      have c0 : decide (i < l.length) = false := decide_eq_false (by have := HK.out; omega)
      have c1 : decide ((i : Int) < (l.length : Int)) = false := decide_eq_false (by have := HK.out; omega)
      go_wp2
      go_ret
      refine ⟨-1, rfl, ?_, ⟨m1, rfl⟩⟩
      have h := HO.out
      rw [List.take_of_length_le (by have := HK.out; omega)] at h
      rw [h]; rfl
    | succ k1 =>
      have hi : Aside0 (i < l.length) := ⟨by have := HK.out; omega⟩
      have c0 : decide (i < l.length) = true := decide_eq_true hi.out
      have c1 : decide ((i : Int) < (l.length : Int)) = true := decide_eq_true (by have := hi.out; omega)
      obtain ⟨ad, rfl, ha⟩ := Kd.at_string HR.out (i : Int) (by omega) (by have := hi.out; omega)
      rw [Int.toNat_natCast] at ha
      obtain ⟨s, hs⟩ : ∃ s, rdOf ByteArray.empty l (i : Int) = s := ⟨_, rfl⟩
      rw [hs] at ha
      have hs2 : Aside0 (l.getD i ByteArray.empty = s) := ⟨hs⟩
      clear hs
      have hst := Aside0.mk (odd_take_succ l i hi.out)
      have hx : 0 ≤ (i : Int) ∧ (i : Int) < (l.length : Int) := ⟨by omega, by have := hi.out; omega⟩
      have hx2 : i < l.length := hi.out
      have hw : IntKind.i64.wrap ((i : Int) + 1) = (i : Int) + 1 := by rw [IntKind.wrap_i64]; have := hi.out; have := hmax.out; omega
      cases hodd : (s.size != 32) with
      | true =>
        have hc : ∀ W, Calls Try.prog 33 #[.string s] W fun e w' => e = .returned (.bool true) ∧ Drawn0 W w' := fun W => by rw [← hodd]; exact odd_one s W
        replace hc := Aside0.mk hc
        replace hodd := Aside0.mk hodd
        go_wp2_with (go_at_call 33; (with_reducible refine (hc.out _).mono ?_); rintro e w' ⟨rfl, ⟨nd, rfl⟩⟩)
        go_ret
        refine ⟨(i : Int), rfl, ?_, ⟨m1 + nd, rfl⟩⟩
        have h := hst.out
        rw [hs2.out, hodd.out, Bool.or_true] at h
        rw [odd_of_take l (i + 1) h]
        exact decide_eq_true (by omega)
      | false =>
        have hc : ∀ W, Calls Try.prog 33 #[.string s] W fun e w' => e = .returned (.bool false) ∧ Drawn0 W w' := fun W => by rw [← hodd]; exact odd_one s W
        replace hc := Aside0.mk hc
        replace hodd := Aside0.mk hodd
        go_wp2_with (go_at_call 33; (with_reducible refine (hc.out _).mono ?_); rintro e w' ⟨rfl, ⟨nd, rfl⟩⟩)
        go_roundg k1
        case measure => omega
        case rel =>
          have h := hst.out
          rw [hs2.out, hodd.out, HO.out] at h
          exact ⟨i + 1, rfl, ⟨by have := HK.out; omega⟩, ⟨h⟩, ⟨m1 + nd, rfl⟩⟩
set_option maxHeartbeats 2000000 in
theorem contains_odd (A : Option Addr) (c : Nat) (l : List ByteArray) (w : World) (hr : Kd.C Kd.string w A l.length l) :
    Calls Try.prog 32 #[.slice A l.length c, .func (.func 33) #[] #[]] w fun e w' => e = .returned (.bool (odd32 l)) ∧ Drawn0 w w' := by
  have HR := Aside0.mk hr
  clear hr
  go_enter Try.func32, Try.ntmps32
  go_wp2_with (go_at_call 41; (with_reducible refine (index_odd A c l _ HR.out).mono ?_); rintro e w' ⟨n, rfl, hn, ⟨nd, rfl⟩⟩; replace hn := Aside0.mk hn)
  go_ret
  refine ⟨?_, ⟨nd, rfl⟩⟩
  rw [← hn.out]
  rfl
/-- What the sectors hold behind their first bytes, one behind the other. -/
def joined : List ByteArray → ByteArray
  | [] => ⟨#[]⟩
  | s :: l => s.extract 1 s.size ++ joined l
def rec_Join.f (k : Nat) (l : List ByteArray) (a1 : Int) : Option (ByteArray × Bool) :=
  (rec_Count.f a1).bind fun n => if n = (l.length : Int) then (if odd32 l = true then some (⟨#[]⟩, false) else (if l.length ≤ 4000000000000 then (if 0 ≤ a1 then (if a1 ≤ ((joined l).size : Int) then ((rec_Cut.f k ((joined l).extract 0 a1.toNat)).bind fun c => (slices_Equal_string_string.f k c l).bind fun q => if q = true then some ((joined l).extract 0 a1.toNat, true) else some (⟨#[]⟩, false)) else none) else none) else none)) else some (⟨#[]⟩, false)
theorem rec_Join.mono : ∀ a0 a1 k, LeO (rec_Join.f k a0 a1) (rec_Join.f (k + 1) a0 a1) := by
  intro a0 a1 k
  unfold rec_Join.f
  repeat' first
      | (with_reducible exact rec_Cut.mono _ _)
      | (with_reducible exact slices_Equal_string_string.mono _ _ _)
      | (with_reducible exact LeO.refl _)
      | (with_reducible exact LeO.none _)
      | (with_reducible refine LeO.ite ?_ ?_)
      | (with_reducible refine LeO.bind ?_ (fun _ => ?_))
set_option maxHeartbeats 4000000 in
set_option maxRecDepth 100000 in
theorem join_no (A : Option Addr) (c : Nat) (l : List ByteArray) (a1 n : Int) (w : World) (hr : Kd.C Kd.string w A l.length l) (hc : l.length ≤ c) (h : rec_Count.f a1 = some n) (hn : ¬ n = (l.length : Int)) :
    Calls Try.prog 15 #[.slice A l.length c, .int .i64 a1] w fun e w' => e = .returned (.tuple #[.string ⟨#[]⟩, .bool false]) ∧ Below w.heap.size w w' := by
  have HR := Aside0.mk hr
  have HC := Aside0.mk h
  have d0 : (n != (l.length : Int)) = true := bne_iff_ne.mpr hn
  have d1 : (n == (l.length : Int)) = false := beq_eq_false_iff_ne.mpr hn
  clear hr h hn
  go_enter Try.func15, Try.ntmps15
  go_wp2_with (go_at_call 20; (with_reducible refine (rec_Count.calls a1 n _ HC.out).mono ?_); rintro e w' ⟨rfl, ⟨nd, rfl⟩⟩)
  go_ret2
  exact ⟨rfl, pw_below_drewN (Below.refl _ _) nd⟩
set_option maxHeartbeats 4000000 in
set_option maxRecDepth 100000 in
theorem join_odd (A : Option Addr) (c : Nat) (l : List ByteArray) (a1 n : Int) (w : World) (hr : Kd.C Kd.string w A l.length l) (hc : l.length ≤ c) (h : rec_Count.f a1 = some n) (hn : n = (l.length : Int)) (ho : odd32 l = true) :
    Calls Try.prog 15 #[.slice A l.length c, .int .i64 a1] w fun e w' => e = .returned (.tuple #[.string ⟨#[]⟩, .bool false]) ∧ Below w.heap.size w w' := by
  have HR := Aside0.mk hr
  have HC := Aside0.mk h
  have HO := Aside0.mk ho
  have d0 : (n != (l.length : Int)) = false := bne_eq_false_iff_eq.mpr hn
  have d1 : (n == (l.length : Int)) = true := beq_iff_eq.mpr hn
  clear hr h hn ho
  go_enter Try.func15, Try.ntmps15
  go_wp2_with (first
    | (go_at_call 20; (with_reducible refine (rec_Count.calls a1 n _ HC.out).mono ?_); rintro e w' ⟨rfl, ⟨nd, rfl⟩⟩)
    | (go_at_call 32; refine (contains_odd A c l _ (Kd.C_drewN HR.out nd)).mono ?_; rintro e w' ⟨rfl, ⟨nd2, rfl⟩⟩; rw [HO.out]))
  go_ret2
  exact ⟨rfl, pw_below_drewN (Below.refl _ _) (nd + nd2)⟩
end Go.Proofs.Ytajgpmeilpjadaa.P
