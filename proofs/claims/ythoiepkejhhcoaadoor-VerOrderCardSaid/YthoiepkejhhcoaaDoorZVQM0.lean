/- Printed functions, merged. -/
import Derived.Test.YthoiepkejhhcoaaDoorProg
import Derived.Below
import Derived.Deep.Draws
import Derived.Deep.AppendLies
import Derived.Maps.AppendAt
import Derived.OwnWalk
import Derived.Laws.BytesArg
import Derived.Laws.MakeOwn
import Derived.Laws.OwnMore
import Derived.Deep.OwnRows
import Derived.Tactics
import Derived.Lib.ConvBytes
import Derived.Laws.Slices
import Derived.WalkKit
import Derived.KernelRfl
import Derived.RowKit3
import Derived.Deep.LoopGhost
import Derived.Deep.QuietTactic
import Derived.BigQuiet
import Derived.WideLaws
import Derived.Deep.DeepCutAuto
import Derived.Deep.CutBlock
import Derived.Deep.RegionHeld3
import Derived.Laws.Rows
import Derived.Lib.AppendStr
import Derived.ArgAppend
import Derived.Laws.IdiomCopy
import Derived.OrdersHeld
import Derived.Laws.BitsLemmas
import Derived.RowKit
import Derived.Test.YthoiepkejhhcoaaDoorZVQWWords
import Derived.Test.YthoiepkejhhcoaaDoorZVQWLast
import Derived.Test.YthoiepkejhhcoaaDoorZVQWTab
import Derived.Test.YthoiepkejhhcoaaDoorZVQWApart
import Derived.Test.YthoiepkejhhcoaaDoorZVQWFoot
import Derived.Test.YthoiepkejhhcoaaDoorZVQWKept
import Derived.Test.YthoiepkejhhcoaaDoorZVQWShare
import Derived.Test.YthoiepkejhhcoaaDoorZVQWN
import Derived.Test.YthoiepkejhhcoaaDoorZVQWEqStruct
import Derived.Test.YthoiepkejhhcoaaDoorZVQWRepsOne
import Derived.Test.YthoiepkejhhcoaaDoorZVQWInv
import Derived.Test.YthoiepkejhhcoaaDoorZVQWGuard
import Derived.Test.YthoiepkejhhcoaaDoorZVQWMore
import Derived.Test.YthoiepkejhhcoaaDoorZVQAl
namespace Go.Proofs.YthoiepkejhhcoaaDoor.P
open Go.RowKit Go.Proofs.YthoiepkejhhcoaaDoorW.PrintWords Go.Proofs.YthoiepkejhhcoaaDoorW.PrintLast Go.Proofs.YthoiepkejhhcoaaDoorW.PrintMore
attribute [local go_sem] max2_int min2_int max_two min_two max_three min_three max_four min_four   -- for this text's walks alone
set_option linter.unusedVariables false
set_option linter.unusedSimpArgs false
def errW : Option Int → Value
 | none => .nilIface
 | some c => .iface 74 (.int .i64 c)
theorem errW_none : errW none = .nilIface := rfl
theorem errW_some (c : Int) : errW (some c) = .iface 74 (.int .i64 c) := rfl
theorem info9 : (Tryd.prog.info? 9).map (fun i => (i.zero, i.size, i.bytes)) = some (some (.string ⟨#[]⟩), 1, 16) := by kernel_rfl
structure S23 where
 f0 : Int
 f1 : Int
 f2 : Int
 f3 : ByteArray
 f4 : ByteArray
def z23 : S23 := ⟨(0 : Int), (0 : Int), (0 : Int), (⟨#[]⟩ : ByteArray), (⟨#[]⟩ : ByteArray)⟩
def k23 : Kd S23 := Kd.iso (Kd.pair (Kd.int .i64) (Kd.pair (Kd.int .i64) (Kd.pair (Kd.int .i64) (Kd.pair Kd.string Kd.string)))) (fun x : S23 => (x.f0, x.f1, x.f2, x.f3, x.f4))
theorem k23_open {w : World} {x : S23} {cs : List Value} (h : k23.K w x cs) : cs = [.int .i64 x.f0, .int .i64 x.f1, .int .i64 x.f2, .string x.f3, .string x.f4] := by
 obtain ⟨_, _, rfl, rfl, ⟨_, _, rfl, rfl, ⟨_, _, rfl, rfl, ⟨_, _, rfl, rfl, rfl⟩⟩⟩⟩ := h
 exact rfl
theorem k23_mk (w : World) (x : S23)  : k23.K w x [.int .i64 x.f0, .int .i64 x.f1, .int .i64 x.f2, .string x.f3, .string x.f4] := ⟨[.int .i64 x.f0], [.int .i64 x.f1, .int .i64 x.f2, .string x.f3, .string x.f4], rfl, rfl, ⟨[.int .i64 x.f1], [.int .i64 x.f2, .string x.f3, .string x.f4], rfl, rfl, ⟨[.int .i64 x.f2], [.string x.f3, .string x.f4], rfl, rfl, ⟨[.string x.f3], [.string x.f4], rfl, rfl, rfl⟩⟩⟩⟩
theorem k23_mkM (w : World) (base : Nat) (ok : Nat → Prop) (x : S23)  : k23.M w base ok x [.int .i64 x.f0, .int .i64 x.f1, .int .i64 x.f2, .string x.f3, .string x.f4] := ⟨[.int .i64 x.f0], [.int .i64 x.f1, .int .i64 x.f2, .string x.f3, .string x.f4], rfl, rfl, ⟨[.int .i64 x.f1], [.int .i64 x.f2, .string x.f3, .string x.f4], rfl, rfl, ⟨[.int .i64 x.f2], [.string x.f3, .string x.f4], rfl, rfl, ⟨[.string x.f3], [.string x.f4], rfl, rfl, rfl⟩⟩⟩⟩
def rd_T23 (xs : List S23) (i : Int) : S23 := xs.getD i.toNat z23
theorem at_T23 {w : World} {A : Option Addr} {n : Nat} {xs : List S23} (h : Kd.C k23 w A n xs) (i : Int) (h0 : 0 ≤ i) (h1 : i < n) : ∃ ad , A = some ad ∧ w.cell? (ad.add (i.toNat * 5)) = some (.int .i64 (rd_T23 xs i).f0) ∧ w.cell? ⟨(ad.add (i.toNat * 5)).block, (ad.add (i.toNat * 5)).off + 1, none⟩ = some (.int .i64 (rd_T23 xs i).f1) ∧ w.cell? ⟨(ad.add (i.toNat * 5)).block, (ad.add (i.toNat * 5)).off + 2, none⟩ = some (.int .i64 (rd_T23 xs i).f2) ∧ w.cell? ⟨(ad.add (i.toNat * 5)).block, (ad.add (i.toNat * 5)).off + 3, none⟩ = some (.string (rd_T23 xs i).f3) ∧ w.cell? ⟨(ad.add (i.toNat * 5)).block, (ad.add (i.toNat * 5)).off + 4, none⟩ = some (.string (rd_T23 xs i).f4) := by
 obtain ⟨ad, c, e, _, hK, hc0⟩ := Kd.C_get h z23 i h0 h1
 have hc : ∀ j u, c[j]? = some u → w.cell? (ad.add (i.toNat * 5 + j)) = some u := hc0
 obtain rfl := k23_open hK
 exact ⟨ad, e, hc 0 _ rfl, by rw [← add_field _ _ 1 (by omega)]; exact hc 1 _ rfl, by rw [← add_field _ _ 2 (by omega)]; exact hc 2 _ rfl, by rw [← add_field _ _ 3 (by omega)]; exact hc 3 _ rfl, by rw [← add_field _ _ 4 (by omega)]; exact hc 4 _ rfl⟩
theorem eqA23 (d : Nat) (w : World) (x0 y0 : Int) (x1 y1 : Int) (x2 y2 : Int) (x3 y3 : ByteArray) (x4 y4 : ByteArray) :
  (Op.equalIn (d + 2) 23 (.agg #[.int .i64 x0, .int .i64 x1, .int .i64 x2, .string x3, .string x4]) (.agg #[.int .i64 y0, .int .i64 y1, .int .i64 y2, .string y3, .string y4])).run Tryd.prog w = .ok (x0 == y0 && (x1 == y1 && (x2 == y2 && (x3.toList == y3.toList && (x4.toList == y4.toList))))) w := by
 refine eqA_of Tryd.underlying23 (by kernel_rfl) ?_
 refine eqf_cons (by rfl) (by go_simp; rfl) (by go_simp; rfl) (by go_simp) ?_
 refine eqf_cons (by rfl) (by go_simp; rfl) (by go_simp; rfl) (by go_simp) ?_
 refine eqf_cons (by rfl) (by go_simp; rfl) (by go_simp; rfl) (by go_simp) ?_
 refine eqf_cons (by rfl) (by go_simp; rfl) (by go_simp; rfl) (by go_simp) ?_
 exact eqf_last (by rfl) (by go_simp; rfl) (by go_simp; rfl) (by go_simp)
def ver_num.f (a0 : Int) : Option (Bool) := if a0 ≥ 0 then (some (decide (a0 ≤ 999999999))) else (some false)
set_option maxHeartbeats 8000000 in
set_option maxRecDepth 100000 in
theorem ver_num.calls (a0 : Int) (r : Bool) (w : World) (h : ver_num.f a0 = some r) :
  Calls Tryd.prog 31 #[.int .i64 a0] w fun e w' => e = .returned (.bool r) ∧ Drawn0 w w' := by
 have H : (if a0 ≥ 0 then (some (decide (a0 ≤ 999999999))) else (some false)) = some r := h
 clear h
 by_cases c2 : a0 ≥ 0
 ·rw [if_pos c2] at H
  have c2b0 : decide (0 ≤ a0) = true := decide_eq_true c2
  clear c2
  obtain rfl := Option.some.inj H
  go_enter Tryd.func31, Tryd.ntmps31
  go_wp2
  go_ret
  exact ⟨by first | rfl | (simp; done) | (simp [*]; done), by repeat (first | exact Drawn0.refl _ | apply Drawn0.step)⟩
 ·rw [if_neg c2] at H
  have c2b0 : decide (0 ≤ a0) = false := decide_eq_false c2
  clear c2
  obtain rfl := Option.some.inj H
  go_enter Tryd.func31, Tryd.ntmps31
  go_wp2
  go_ret
  exact ⟨by first | rfl | (simp; done) | (simp [*]; done), by repeat (first | exact Drawn0.refl _ | apply Drawn0.step)⟩
def ver_digit.f (a0 : Int) : Option (Bool) := if a0 ≥ 48 then (some (decide (a0 ≤ 57))) else (some false)
set_option maxHeartbeats 8000000 in
set_option maxRecDepth 100000 in
theorem ver_digit.calls (a0 : Int) (r : Bool) (w : World) (h : ver_digit.f a0 = some r) :
  Calls Tryd.prog 69 #[.int .u8 a0] w fun e w' => e = .returned (.bool r) ∧ Drawn0 w w' := by
 have H : (if a0 ≥ 48 then (some (decide (a0 ≤ 57))) else (some false)) = some r := h
 clear h
 by_cases c2 : a0 ≥ 48
 ·rw [if_pos c2] at H
  have c2b0 : decide (48 ≤ a0) = true := decide_eq_true c2
  clear c2
  obtain rfl := Option.some.inj H
  go_enter Tryd.func69, Tryd.ntmps69
  go_wp2
  go_ret
  exact ⟨by first | rfl | (simp; done) | (simp [*]; done), by repeat (first | exact Drawn0.refl _ | apply Drawn0.step)⟩
 ·rw [if_neg c2] at H
  have c2b0 : decide (48 ≤ a0) = false := decide_eq_false c2
  clear c2
  obtain rfl := Option.some.inj H
  go_enter Tryd.func69, Tryd.ntmps69
  go_wp2
  go_ret
  exact ⟨by first | rfl | (simp; done) | (simp [*]; done), by repeat (first | exact Drawn0.refl _ | apply Drawn0.step)⟩
def ver_word.l0 : Nat → ByteArray → Int → Int → Option (Bool)
 | 0, _, _, _ => none
 | k + 1, x0, x6, x7 => if x7 < x6 then (if 0 ≤ x7 then (if x7 < (x0.size : Int) then ((ver_digit.f (bt x0 x7)).bind fun t101 => (if t101 = true then (ver_word.l0 k x0 x6 (wrap64 (x7 + 1))) else (if (bt x0 x7) < 97 then (if (bt x0 x7) < 65 then (if (bt x0 x7) = 45 then (ver_word.l0 k x0 x6 (wrap64 (x7 + 1))) else (some false)) else (if (bt x0 x7) > 90 then (if (bt x0 x7) = 45 then (ver_word.l0 k x0 x6 (wrap64 (x7 + 1))) else (some false)) else (ver_word.l0 k x0 x6 (wrap64 (x7 + 1))))) else (if (bt x0 x7) > 122 then (if (bt x0 x7) < 65 then (if (bt x0 x7) = 45 then (ver_word.l0 k x0 x6 (wrap64 (x7 + 1))) else (some false)) else (if (bt x0 x7) > 90 then (if (bt x0 x7) = 45 then (ver_word.l0 k x0 x6 (wrap64 (x7 + 1))) else (some false)) else (ver_word.l0 k x0 x6 (wrap64 (x7 + 1))))) else (ver_word.l0 k x0 x6 (wrap64 (x7 + 1))))))) else (none)) else (none)) else (some (x0.toList != ([] : List UInt8)))
def ver_word.f (k : Nat) (a0 : ByteArray) : Option (Bool) := ver_word.l0 k a0 (a0.size : Int) 0
theorem ver_word.mono_l : ∀ k, (∀ y0 y1 y2, LeO (ver_word.l0 k y0 y1 y2) (ver_word.l0 (k + 1) y0 y1 y2))
 | 0 => fun _ _ _ r h => by simp [ver_word.l0] at h
 | k + 1 => by
  have ih0 := ver_word.mono_l k
  ·intro y0 y1 y2
   unfold ver_word.l0
   repeat' first
   | (with_reducible exact ih0 _ _ _)
   | (with_reducible exact LeO.refl _)
   | (with_reducible exact LeO.none _)
   | (with_reducible refine LeO.ite ?_ ?_)
   | (with_reducible refine LeO.bind ?_ (fun _ => ?_))
   | exact ih0 _ _ _
   | exact LeO.none _
   | refine LeO.ite ?_ ?_
   | refine LeO.bind ?_ (fun _ => ?_)
theorem ver_word.mono : ∀ a0 k, LeO (ver_word.f k a0) (ver_word.f (k + 1) a0) := by
 intro a0 k
 have ih0 := ver_word.mono_l k
 unfold ver_word.f
 repeat' first
   | (with_reducible exact ih0 _ _ _)
   | (with_reducible exact LeO.refl _)
   | (with_reducible exact LeO.none _)
   | (with_reducible refine LeO.ite ?_ ?_)
   | (with_reducible refine LeO.bind ?_ (fun _ => ?_))
   | exact ih0 _ _ _
   | exact LeO.none _
   | refine LeO.ite ?_ ?_
   | refine LeO.bind ?_ (fun _ => ?_)
set_option maxHeartbeats 8000000 in
set_option maxRecDepth 100000 in
theorem ver_word.calls (k : Nat) (a0 : ByteArray) (r : Bool) (w : World) (h : ver_word.f k a0 = some r) :
  Calls Tryd.prog 50 #[.string a0] w fun e w' => e = .returned (.bool r) ∧ Drawn0 w w' := by
 have H : (ver_word.l0 k a0 (a0.size : Int) 0) = some r := h
 clear h
 have H' := Aside0.mk H
 clear H
 go_enter Tryd.func50, Tryd.ntmps50
 go_wp2
 go_loopg [7] k (fun kq v7 w' => ∃ (x7_1 : Int), v7 = .int .i64 x7_1 ∧ Aside0 (ver_word.l0 kq a0 (a0.size : Int) x7_1 = some r) ∧ Aside0 (kq ≤ k) ∧ Drawn0 w w')
 case atStart => exact ⟨(0), (by first | rfl | (simp; done) | (simp [*]; done)), H', ⟨Nat.le_refl _⟩, by repeat (first | exact Drawn0.refl _ | apply Drawn0.step)⟩
 case round =>
  clear H'
  obtain ⟨x7_1, rfl, HA, HK1, ⟨m1, rfl⟩⟩ := hrel
  cases gk with
  | zero => exact absurd HA.out (by simp [ver_word.l0])
  | succ k1 =>
   have H := HA.out
   clear HA
   simp only [ver_word.l0] at H
   by_cases c2 : x7_1 < (a0.size : Int)
   ·rw [if_pos c2] at H
    have c2b0 : decide (x7_1 < (a0.size : Int)) = true := decide_eq_true c2
    clear c2
    by_cases c3 : 0 ≤ x7_1
    ·rw [if_pos c3] at H
     have c3b0 : decide (0 ≤ x7_1) = true := decide_eq_true c3
     clear c3
     by_cases c4 : x7_1 < (a0.size : Int)
     ·rw [if_pos c4] at H
      have c4b0 : decide (x7_1 < (a0.size : Int)) = true := decide_eq_true c4
      clear c4
      replace H := Option.bind_eq_some_iff.mp H
      obtain ⟨t101, A60, H⟩ := H
      replace H : (if t101 = true then (ver_word.l0 k1 a0 (a0.size : Int) (wrap64 (x7_1 + 1))) else (if (bt a0 x7_1) < 97 then (if (bt a0 x7_1) < 65 then (if (bt a0 x7_1) = 45 then (ver_word.l0 k1 a0 (a0.size : Int) (wrap64 (x7_1 + 1))) else (some false)) else (if (bt a0 x7_1) > 90 then (if (bt a0 x7_1) = 45 then (ver_word.l0 k1 a0 (a0.size : Int) (wrap64 (x7_1 + 1))) else (some false)) else (ver_word.l0 k1 a0 (a0.size : Int) (wrap64 (x7_1 + 1))))) else (if (bt a0 x7_1) > 122 then (if (bt a0 x7_1) < 65 then (if (bt a0 x7_1) = 45 then (ver_word.l0 k1 a0 (a0.size : Int) (wrap64 (x7_1 + 1))) else (some false)) else (if (bt a0 x7_1) > 90 then (if (bt a0 x7_1) = 45 then (ver_word.l0 k1 a0 (a0.size : Int) (wrap64 (x7_1 + 1))) else (some false)) else (ver_word.l0 k1 a0 (a0.size : Int) (wrap64 (x7_1 + 1))))) else (ver_word.l0 k1 a0 (a0.size : Int) (wrap64 (x7_1 + 1)))))) = some r := H
      have A6 := Aside0.mk A60
      clear A60
      by_cases c7 : t101 = true
      ·subst c7
       have H1 : (ver_word.l0 k1 a0 (a0.size : Int) (wrap64 (x7_1 + 1))) = some r := by rw [if_pos rfl] at H; exact H
       clear H
       have H := H1
       clear H1
       have H' := Aside0.mk H
       clear H
       have p5 : 0 ≤ (x7_1 : Int) := of_decide_eq_true (by first | (with_reducible assumption) | assumption)
       have q5 : x7_1 < (a0.size : Int) := of_decide_eq_true (by first | (with_reducible assumption) | assumption)
       have hx5 := bt_at a0 x7_1
       replace p5 := eq_true p5
       replace q5 := eq_true q5
       go_wp2_with (first | ((with_reducible refine gate_callee (f := 69) rfl ?_); refine goesL_ (some 14) rfl rfl Tryd.func69 (by kernel_rfl) rfl #[.int .u8 (bt a0 x7_1)] rfl (by (try simp only [List.map_toArray, List.map_cons, List.map_nil]); first | done | rfl) ?_; (with_reducible refine (ver_digit.calls (bt a0 x7_1) true _ A6.out).mono ?_); rintro e w' ⟨rfl, ⟨nd, rfl⟩⟩; refine ⟨_, rfl, ?_⟩) | (go_at_call 69; (with_reducible refine (ver_digit.calls (bt a0 x7_1) true _ A6.out).mono ?_); rintro e w' ⟨rfl, ⟨nd, rfl⟩⟩))
       go_roundg k1
       case measure => have := HK1.out; omega
       case rel => exact ⟨(wrap64 (x7_1 + 1)), (by first | rfl | (simp; done) | (simp [*]; done)), H', ⟨by have := HK1.out; omega⟩, by repeat (first | exact Drawn0.refl _ | apply Drawn0.step)⟩
      ·replace c7 := Bool.eq_false_iff.mpr c7
       subst c7
       have H1 : (if (bt a0 x7_1) < 97 then (if (bt a0 x7_1) < 65 then (if (bt a0 x7_1) = 45 then (ver_word.l0 k1 a0 (a0.size : Int) (wrap64 (x7_1 + 1))) else (some false)) else (if (bt a0 x7_1) > 90 then (if (bt a0 x7_1) = 45 then (ver_word.l0 k1 a0 (a0.size : Int) (wrap64 (x7_1 + 1))) else (some false)) else (ver_word.l0 k1 a0 (a0.size : Int) (wrap64 (x7_1 + 1))))) else (if (bt a0 x7_1) > 122 then (if (bt a0 x7_1) < 65 then (if (bt a0 x7_1) = 45 then (ver_word.l0 k1 a0 (a0.size : Int) (wrap64 (x7_1 + 1))) else (some false)) else (if (bt a0 x7_1) > 90 then (if (bt a0 x7_1) = 45 then (ver_word.l0 k1 a0 (a0.size : Int) (wrap64 (x7_1 + 1))) else (some false)) else (ver_word.l0 k1 a0 (a0.size : Int) (wrap64 (x7_1 + 1))))) else (ver_word.l0 k1 a0 (a0.size : Int) (wrap64 (x7_1 + 1))))) = some r := by rw [if_neg (show ¬ (false = true) by decide)] at H; exact H
       clear H
       have H := H1
       clear H1
       by_cases c8 : (bt a0 x7_1) < 97
       ·rw [if_pos c8] at H
        have c8b0 : decide ((bt a0 x7_1) < 97) = true := decide_eq_true c8
        clear c8
        by_cases c9 : (bt a0 x7_1) < 65
        ·rw [if_pos c9] at H
         have c9b0 : decide ((bt a0 x7_1) < 65) = true := decide_eq_true c9
         clear c9
         by_cases c10 : (bt a0 x7_1) = 45
         ·rw [if_pos c10] at H
          have c10b0 : ((bt a0 x7_1) == 45) = true := beq_iff_eq.mpr c10
          have c10b1 : ((bt a0 x7_1) != 45) = false := bne_eq_false_iff_eq.mpr c10
          clear c10
          have H' := Aside0.mk H
          clear H
          have p5 : 0 ≤ (x7_1 : Int) := of_decide_eq_true (by first | (with_reducible assumption) | assumption)
          have q5 : x7_1 < (a0.size : Int) := of_decide_eq_true (by first | (with_reducible assumption) | assumption)
          have hx5 := bt_at a0 x7_1
          replace p5 := eq_true p5
          replace q5 := eq_true q5
          go_wp2_with (first | ((with_reducible refine gate_callee (f := 69) rfl ?_); refine goesL_ (some 14) rfl rfl Tryd.func69 (by kernel_rfl) rfl #[.int .u8 (bt a0 x7_1)] rfl (by (try simp only [List.map_toArray, List.map_cons, List.map_nil]); first | done | rfl) ?_; (with_reducible refine (ver_digit.calls (bt a0 x7_1) false _ A6.out).mono ?_); rintro e w' ⟨rfl, ⟨nd, rfl⟩⟩; refine ⟨_, rfl, ?_⟩) | (go_at_call 69; (with_reducible refine (ver_digit.calls (bt a0 x7_1) false _ A6.out).mono ?_); rintro e w' ⟨rfl, ⟨nd, rfl⟩⟩))
          go_roundg k1
          case measure => have := HK1.out; omega
          case rel => exact ⟨(wrap64 (x7_1 + 1)), (by first | rfl | (simp; done) | (simp [*]; done)), H', ⟨by have := HK1.out; omega⟩, by repeat (first | exact Drawn0.refl _ | apply Drawn0.step)⟩
         ·rw [if_neg c10] at H
          have c10b0 : ((bt a0 x7_1) == 45) = false := beq_eq_false_iff_ne.mpr c10
          have c10b1 : ((bt a0 x7_1) != 45) = true := bne_iff_ne.mpr c10
          obtain rfl := Option.some.inj H
          have p5 : 0 ≤ (x7_1 : Int) := of_decide_eq_true (by first | (with_reducible assumption) | assumption)
          have q5 : x7_1 < (a0.size : Int) := of_decide_eq_true (by first | (with_reducible assumption) | assumption)
          have hx5 := bt_at a0 x7_1
          replace p5 := eq_true p5
          replace q5 := eq_true q5
          go_wp2_with (first | ((with_reducible refine gate_callee (f := 69) rfl ?_); refine goesL_ (some 14) rfl rfl Tryd.func69 (by kernel_rfl) rfl #[.int .u8 (bt a0 x7_1)] rfl (by (try simp only [List.map_toArray, List.map_cons, List.map_nil]); first | done | rfl) ?_; (with_reducible refine (ver_digit.calls (bt a0 x7_1) false _ A6.out).mono ?_); rintro e w' ⟨rfl, ⟨nd, rfl⟩⟩; refine ⟨_, rfl, ?_⟩) | (go_at_call 69; (with_reducible refine (ver_digit.calls (bt a0 x7_1) false _ A6.out).mono ?_); rintro e w' ⟨rfl, ⟨nd, rfl⟩⟩))
          go_ret
          exact ⟨by first | rfl | (simp; done) | (simp [*]; done) | (cases a0.toList <;> simp; done) | (cases a0.toList <;> rfl), by repeat (first | exact Drawn0.refl _ | apply Drawn0.step)⟩
        ·rw [if_neg c9] at H
         have c9b0 : decide ((bt a0 x7_1) < 65) = false := decide_eq_false c9
         clear c9
         by_cases c11 : (bt a0 x7_1) > 90
         ·rw [if_pos c11] at H
          have c11b0 : decide (90 < (bt a0 x7_1)) = true := decide_eq_true c11
          clear c11
          by_cases c12 : (bt a0 x7_1) = 45
          ·rw [if_pos c12] at H
           have c12b0 : ((bt a0 x7_1) == 45) = true := beq_iff_eq.mpr c12
           have c12b1 : ((bt a0 x7_1) != 45) = false := bne_eq_false_iff_eq.mpr c12
           clear c12
           have H' := Aside0.mk H
           clear H
           have p5 : 0 ≤ (x7_1 : Int) := of_decide_eq_true (by first | (with_reducible assumption) | assumption)
           have q5 : x7_1 < (a0.size : Int) := of_decide_eq_true (by first | (with_reducible assumption) | assumption)
           have hx5 := bt_at a0 x7_1
           replace p5 := eq_true p5
           replace q5 := eq_true q5
           go_wp2_with (first | ((with_reducible refine gate_callee (f := 69) rfl ?_); refine goesL_ (some 14) rfl rfl Tryd.func69 (by kernel_rfl) rfl #[.int .u8 (bt a0 x7_1)] rfl (by (try simp only [List.map_toArray, List.map_cons, List.map_nil]); first | done | rfl) ?_; (with_reducible refine (ver_digit.calls (bt a0 x7_1) false _ A6.out).mono ?_); rintro e w' ⟨rfl, ⟨nd, rfl⟩⟩; refine ⟨_, rfl, ?_⟩) | (go_at_call 69; (with_reducible refine (ver_digit.calls (bt a0 x7_1) false _ A6.out).mono ?_); rintro e w' ⟨rfl, ⟨nd, rfl⟩⟩))
           go_roundg k1
           case measure => have := HK1.out; omega
           case rel => exact ⟨(wrap64 (x7_1 + 1)), (by first | rfl | (simp; done) | (simp [*]; done)), H', ⟨by have := HK1.out; omega⟩, by repeat (first | exact Drawn0.refl _ | apply Drawn0.step)⟩
          ·rw [if_neg c12] at H
           have c12b0 : ((bt a0 x7_1) == 45) = false := beq_eq_false_iff_ne.mpr c12
           have c12b1 : ((bt a0 x7_1) != 45) = true := bne_iff_ne.mpr c12
           obtain rfl := Option.some.inj H
           have p5 : 0 ≤ (x7_1 : Int) := of_decide_eq_true (by first | (with_reducible assumption) | assumption)
           have q5 : x7_1 < (a0.size : Int) := of_decide_eq_true (by first | (with_reducible assumption) | assumption)
           have hx5 := bt_at a0 x7_1
           replace p5 := eq_true p5
           replace q5 := eq_true q5
           go_wp2_with (first | ((with_reducible refine gate_callee (f := 69) rfl ?_); refine goesL_ (some 14) rfl rfl Tryd.func69 (by kernel_rfl) rfl #[.int .u8 (bt a0 x7_1)] rfl (by (try simp only [List.map_toArray, List.map_cons, List.map_nil]); first | done | rfl) ?_; (with_reducible refine (ver_digit.calls (bt a0 x7_1) false _ A6.out).mono ?_); rintro e w' ⟨rfl, ⟨nd, rfl⟩⟩; refine ⟨_, rfl, ?_⟩) | (go_at_call 69; (with_reducible refine (ver_digit.calls (bt a0 x7_1) false _ A6.out).mono ?_); rintro e w' ⟨rfl, ⟨nd, rfl⟩⟩))
           go_ret
           exact ⟨by first | rfl | (simp; done) | (simp [*]; done) | (cases a0.toList <;> simp; done) | (cases a0.toList <;> rfl), by repeat (first | exact Drawn0.refl _ | apply Drawn0.step)⟩
         ·rw [if_neg c11] at H
          have c11b0 : decide (90 < (bt a0 x7_1)) = false := decide_eq_false c11
          clear c11
          have H' := Aside0.mk H
          clear H
          have p5 : 0 ≤ (x7_1 : Int) := of_decide_eq_true (by first | (with_reducible assumption) | assumption)
          have q5 : x7_1 < (a0.size : Int) := of_decide_eq_true (by first | (with_reducible assumption) | assumption)
          have hx5 := bt_at a0 x7_1
          replace p5 := eq_true p5
          replace q5 := eq_true q5
          go_wp2_with (first | ((with_reducible refine gate_callee (f := 69) rfl ?_); refine goesL_ (some 14) rfl rfl Tryd.func69 (by kernel_rfl) rfl #[.int .u8 (bt a0 x7_1)] rfl (by (try simp only [List.map_toArray, List.map_cons, List.map_nil]); first | done | rfl) ?_; (with_reducible refine (ver_digit.calls (bt a0 x7_1) false _ A6.out).mono ?_); rintro e w' ⟨rfl, ⟨nd, rfl⟩⟩; refine ⟨_, rfl, ?_⟩) | (go_at_call 69; (with_reducible refine (ver_digit.calls (bt a0 x7_1) false _ A6.out).mono ?_); rintro e w' ⟨rfl, ⟨nd, rfl⟩⟩))
          go_roundg k1
          case measure => have := HK1.out; omega
          case rel => exact ⟨(wrap64 (x7_1 + 1)), (by first | rfl | (simp; done) | (simp [*]; done)), H', ⟨by have := HK1.out; omega⟩, by repeat (first | exact Drawn0.refl _ | apply Drawn0.step)⟩
       ·rw [if_neg c8] at H
        have c8b0 : decide ((bt a0 x7_1) < 97) = false := decide_eq_false c8
        clear c8
        by_cases c13 : (bt a0 x7_1) > 122
        ·rw [if_pos c13] at H
         have c13b0 : decide (122 < (bt a0 x7_1)) = true := decide_eq_true c13
         clear c13
         by_cases c14 : (bt a0 x7_1) < 65
         ·rw [if_pos c14] at H
          have c14b0 : decide ((bt a0 x7_1) < 65) = true := decide_eq_true c14
          clear c14
          by_cases c15 : (bt a0 x7_1) = 45
          ·rw [if_pos c15] at H
           have c15b0 : ((bt a0 x7_1) == 45) = true := beq_iff_eq.mpr c15
           have c15b1 : ((bt a0 x7_1) != 45) = false := bne_eq_false_iff_eq.mpr c15
           clear c15
           have H' := Aside0.mk H
           clear H
           have p5 : 0 ≤ (x7_1 : Int) := of_decide_eq_true (by first | (with_reducible assumption) | assumption)
           have q5 : x7_1 < (a0.size : Int) := of_decide_eq_true (by first | (with_reducible assumption) | assumption)
           have hx5 := bt_at a0 x7_1
           replace p5 := eq_true p5
           replace q5 := eq_true q5
           go_wp2_with (first | ((with_reducible refine gate_callee (f := 69) rfl ?_); refine goesL_ (some 14) rfl rfl Tryd.func69 (by kernel_rfl) rfl #[.int .u8 (bt a0 x7_1)] rfl (by (try simp only [List.map_toArray, List.map_cons, List.map_nil]); first | done | rfl) ?_; (with_reducible refine (ver_digit.calls (bt a0 x7_1) false _ A6.out).mono ?_); rintro e w' ⟨rfl, ⟨nd, rfl⟩⟩; refine ⟨_, rfl, ?_⟩) | (go_at_call 69; (with_reducible refine (ver_digit.calls (bt a0 x7_1) false _ A6.out).mono ?_); rintro e w' ⟨rfl, ⟨nd, rfl⟩⟩))
           go_roundg k1
           case measure => have := HK1.out; omega
           case rel => exact ⟨(wrap64 (x7_1 + 1)), (by first | rfl | (simp; done) | (simp [*]; done)), H', ⟨by have := HK1.out; omega⟩, by repeat (first | exact Drawn0.refl _ | apply Drawn0.step)⟩
          ·rw [if_neg c15] at H
           have c15b0 : ((bt a0 x7_1) == 45) = false := beq_eq_false_iff_ne.mpr c15
           have c15b1 : ((bt a0 x7_1) != 45) = true := bne_iff_ne.mpr c15
           obtain rfl := Option.some.inj H
           have p5 : 0 ≤ (x7_1 : Int) := of_decide_eq_true (by first | (with_reducible assumption) | assumption)
           have q5 : x7_1 < (a0.size : Int) := of_decide_eq_true (by first | (with_reducible assumption) | assumption)
           have hx5 := bt_at a0 x7_1
           replace p5 := eq_true p5
           replace q5 := eq_true q5
           go_wp2_with (first | ((with_reducible refine gate_callee (f := 69) rfl ?_); refine goesL_ (some 14) rfl rfl Tryd.func69 (by kernel_rfl) rfl #[.int .u8 (bt a0 x7_1)] rfl (by (try simp only [List.map_toArray, List.map_cons, List.map_nil]); first | done | rfl) ?_; (with_reducible refine (ver_digit.calls (bt a0 x7_1) false _ A6.out).mono ?_); rintro e w' ⟨rfl, ⟨nd, rfl⟩⟩; refine ⟨_, rfl, ?_⟩) | (go_at_call 69; (with_reducible refine (ver_digit.calls (bt a0 x7_1) false _ A6.out).mono ?_); rintro e w' ⟨rfl, ⟨nd, rfl⟩⟩))
           go_ret
           exact ⟨by first | rfl | (simp; done) | (simp [*]; done) | (cases a0.toList <;> simp; done) | (cases a0.toList <;> rfl), by repeat (first | exact Drawn0.refl _ | apply Drawn0.step)⟩
         ·rw [if_neg c14] at H
          have c14b0 : decide ((bt a0 x7_1) < 65) = false := decide_eq_false c14
          clear c14
          by_cases c16 : (bt a0 x7_1) > 90
          ·rw [if_pos c16] at H
           have c16b0 : decide (90 < (bt a0 x7_1)) = true := decide_eq_true c16
           clear c16
           by_cases c17 : (bt a0 x7_1) = 45
           ·rw [if_pos c17] at H
            have c17b0 : ((bt a0 x7_1) == 45) = true := beq_iff_eq.mpr c17
            have c17b1 : ((bt a0 x7_1) != 45) = false := bne_eq_false_iff_eq.mpr c17
            clear c17
            have H' := Aside0.mk H
            clear H
            have p5 : 0 ≤ (x7_1 : Int) := of_decide_eq_true (by first | (with_reducible assumption) | assumption)
            have q5 : x7_1 < (a0.size : Int) := of_decide_eq_true (by first | (with_reducible assumption) | assumption)
            have hx5 := bt_at a0 x7_1
            replace p5 := eq_true p5
            replace q5 := eq_true q5
            go_wp2_with (first | ((with_reducible refine gate_callee (f := 69) rfl ?_); refine goesL_ (some 14) rfl rfl Tryd.func69 (by kernel_rfl) rfl #[.int .u8 (bt a0 x7_1)] rfl (by (try simp only [List.map_toArray, List.map_cons, List.map_nil]); first | done | rfl) ?_; (with_reducible refine (ver_digit.calls (bt a0 x7_1) false _ A6.out).mono ?_); rintro e w' ⟨rfl, ⟨nd, rfl⟩⟩; refine ⟨_, rfl, ?_⟩) | (go_at_call 69; (with_reducible refine (ver_digit.calls (bt a0 x7_1) false _ A6.out).mono ?_); rintro e w' ⟨rfl, ⟨nd, rfl⟩⟩))
            go_roundg k1
            case measure => have := HK1.out; omega
            case rel => exact ⟨(wrap64 (x7_1 + 1)), (by first | rfl | (simp; done) | (simp [*]; done)), H', ⟨by have := HK1.out; omega⟩, by repeat (first | exact Drawn0.refl _ | apply Drawn0.step)⟩
           ·rw [if_neg c17] at H
            have c17b0 : ((bt a0 x7_1) == 45) = false := beq_eq_false_iff_ne.mpr c17
            have c17b1 : ((bt a0 x7_1) != 45) = true := bne_iff_ne.mpr c17
            obtain rfl := Option.some.inj H
            have p5 : 0 ≤ (x7_1 : Int) := of_decide_eq_true (by first | (with_reducible assumption) | assumption)
            have q5 : x7_1 < (a0.size : Int) := of_decide_eq_true (by first | (with_reducible assumption) | assumption)
            have hx5 := bt_at a0 x7_1
            replace p5 := eq_true p5
            replace q5 := eq_true q5
            go_wp2_with (first | ((with_reducible refine gate_callee (f := 69) rfl ?_); refine goesL_ (some 14) rfl rfl Tryd.func69 (by kernel_rfl) rfl #[.int .u8 (bt a0 x7_1)] rfl (by (try simp only [List.map_toArray, List.map_cons, List.map_nil]); first | done | rfl) ?_; (with_reducible refine (ver_digit.calls (bt a0 x7_1) false _ A6.out).mono ?_); rintro e w' ⟨rfl, ⟨nd, rfl⟩⟩; refine ⟨_, rfl, ?_⟩) | (go_at_call 69; (with_reducible refine (ver_digit.calls (bt a0 x7_1) false _ A6.out).mono ?_); rintro e w' ⟨rfl, ⟨nd, rfl⟩⟩))
            go_ret
            exact ⟨by first | rfl | (simp; done) | (simp [*]; done) | (cases a0.toList <;> simp; done) | (cases a0.toList <;> rfl), by repeat (first | exact Drawn0.refl _ | apply Drawn0.step)⟩
          ·rw [if_neg c16] at H
           have c16b0 : decide (90 < (bt a0 x7_1)) = false := decide_eq_false c16
           clear c16
           have H' := Aside0.mk H
           clear H
           have p5 : 0 ≤ (x7_1 : Int) := of_decide_eq_true (by first | (with_reducible assumption) | assumption)
           have q5 : x7_1 < (a0.size : Int) := of_decide_eq_true (by first | (with_reducible assumption) | assumption)
           have hx5 := bt_at a0 x7_1
           replace p5 := eq_true p5
           replace q5 := eq_true q5
           go_wp2_with (first | ((with_reducible refine gate_callee (f := 69) rfl ?_); refine goesL_ (some 14) rfl rfl Tryd.func69 (by kernel_rfl) rfl #[.int .u8 (bt a0 x7_1)] rfl (by (try simp only [List.map_toArray, List.map_cons, List.map_nil]); first | done | rfl) ?_; (with_reducible refine (ver_digit.calls (bt a0 x7_1) false _ A6.out).mono ?_); rintro e w' ⟨rfl, ⟨nd, rfl⟩⟩; refine ⟨_, rfl, ?_⟩) | (go_at_call 69; (with_reducible refine (ver_digit.calls (bt a0 x7_1) false _ A6.out).mono ?_); rintro e w' ⟨rfl, ⟨nd, rfl⟩⟩))
           go_roundg k1
           case measure => have := HK1.out; omega
           case rel => exact ⟨(wrap64 (x7_1 + 1)), (by first | rfl | (simp; done) | (simp [*]; done)), H', ⟨by have := HK1.out; omega⟩, by repeat (first | exact Drawn0.refl _ | apply Drawn0.step)⟩
        ·rw [if_neg c13] at H
         have c13b0 : decide (122 < (bt a0 x7_1)) = false := decide_eq_false c13
         clear c13
         have H' := Aside0.mk H
         clear H
         have p5 : 0 ≤ (x7_1 : Int) := of_decide_eq_true (by first | (with_reducible assumption) | assumption)
         have q5 : x7_1 < (a0.size : Int) := of_decide_eq_true (by first | (with_reducible assumption) | assumption)
         have hx5 := bt_at a0 x7_1
         replace p5 := eq_true p5
         replace q5 := eq_true q5
         go_wp2_with (first | ((with_reducible refine gate_callee (f := 69) rfl ?_); refine goesL_ (some 14) rfl rfl Tryd.func69 (by kernel_rfl) rfl #[.int .u8 (bt a0 x7_1)] rfl (by (try simp only [List.map_toArray, List.map_cons, List.map_nil]); first | done | rfl) ?_; (with_reducible refine (ver_digit.calls (bt a0 x7_1) false _ A6.out).mono ?_); rintro e w' ⟨rfl, ⟨nd, rfl⟩⟩; refine ⟨_, rfl, ?_⟩) | (go_at_call 69; (with_reducible refine (ver_digit.calls (bt a0 x7_1) false _ A6.out).mono ?_); rintro e w' ⟨rfl, ⟨nd, rfl⟩⟩))
         go_roundg k1
         case measure => have := HK1.out; omega
         case rel => exact ⟨(wrap64 (x7_1 + 1)), (by first | rfl | (simp; done) | (simp [*]; done)), H', ⟨by have := HK1.out; omega⟩, by repeat (first | exact Drawn0.refl _ | apply Drawn0.step)⟩
     ·rw [if_neg c4] at H
      exact absurd H (by simp)
    ·rw [if_neg c3] at H
     exact absurd H (by simp)
   ·rw [if_neg c2] at H
    have c2b0 : decide (x7_1 < (a0.size : Int)) = false := decide_eq_false c2
    clear c2
    obtain rfl := Option.some.inj H
    go_wp2
    go_ret
    exact ⟨by first | rfl | (simp; done) | (simp [*]; done) | (cases a0.toList <;> simp; done) | (cases a0.toList <;> rfl), by repeat (first | exact Drawn0.refl _ | apply Drawn0.step)⟩
def ver_digits.l0 : Nat → ByteArray → Int → Int → Option (Bool)
 | 0, _, _, _ => none
 | k + 1, x0, x5, x6 => if x6 < x5 then (if 0 ≤ x6 then (if x6 < (x0.size : Int) then ((ver_digit.f (bt x0 x6)).bind fun t102 => (if t102 = true then (ver_digits.l0 k x0 x5 (wrap64 (x6 + 1))) else (some false))) else (none)) else (none)) else (some (x0.toList != ([] : List UInt8)))
def ver_digits.f (k : Nat) (a0 : ByteArray) : Option (Bool) := ver_digits.l0 k a0 (a0.size : Int) 0
theorem ver_digits.mono_l : ∀ k, (∀ y0 y1 y2, LeO (ver_digits.l0 k y0 y1 y2) (ver_digits.l0 (k + 1) y0 y1 y2))
 | 0 => fun _ _ _ r h => by simp [ver_digits.l0] at h
 | k + 1 => by
  have ih0 := ver_digits.mono_l k
  ·intro y0 y1 y2
   unfold ver_digits.l0
   repeat' first
   | (with_reducible exact ih0 _ _ _)
   | (with_reducible exact LeO.refl _)
   | (with_reducible exact LeO.none _)
   | (with_reducible refine LeO.ite ?_ ?_)
   | (with_reducible refine LeO.bind ?_ (fun _ => ?_))
   | exact ih0 _ _ _
   | exact LeO.none _
   | refine LeO.ite ?_ ?_
   | refine LeO.bind ?_ (fun _ => ?_)
theorem ver_digits.mono : ∀ a0 k, LeO (ver_digits.f k a0) (ver_digits.f (k + 1) a0) := by
 intro a0 k
 have ih0 := ver_digits.mono_l k
 unfold ver_digits.f
 repeat' first
   | (with_reducible exact ih0 _ _ _)
   | (with_reducible exact LeO.refl _)
   | (with_reducible exact LeO.none _)
   | (with_reducible refine LeO.ite ?_ ?_)
   | (with_reducible refine LeO.bind ?_ (fun _ => ?_))
   | exact ih0 _ _ _
   | exact LeO.none _
   | refine LeO.ite ?_ ?_
   | refine LeO.bind ?_ (fun _ => ?_)
set_option maxHeartbeats 8000000 in
set_option maxRecDepth 100000 in
theorem ver_digits.calls (k : Nat) (a0 : ByteArray) (r : Bool) (w : World) (h : ver_digits.f k a0 = some r) :
  Calls Tryd.prog 51 #[.string a0] w fun e w' => e = .returned (.bool r) ∧ Drawn0 w w' := by
 have H : (ver_digits.l0 k a0 (a0.size : Int) 0) = some r := h
 clear h
 have H' := Aside0.mk H
 clear H
 go_enter Tryd.func51, Tryd.ntmps51
 go_wp2
 go_loopg [6] k (fun kq v6 w' => ∃ (x6_1 : Int), v6 = .int .i64 x6_1 ∧ Aside0 (ver_digits.l0 kq a0 (a0.size : Int) x6_1 = some r) ∧ Aside0 (kq ≤ k) ∧ Drawn0 w w')
 case atStart => exact ⟨(0), (by first | rfl | (simp; done) | (simp [*]; done)), H', ⟨Nat.le_refl _⟩, by repeat (first | exact Drawn0.refl _ | apply Drawn0.step)⟩
 case round =>
  clear H'
  obtain ⟨x6_1, rfl, HA, HK1, ⟨m1, rfl⟩⟩ := hrel
  cases gk with
  | zero => exact absurd HA.out (by simp [ver_digits.l0])
  | succ k1 =>
   have H := HA.out
   clear HA
   simp only [ver_digits.l0] at H
   by_cases c2 : x6_1 < (a0.size : Int)
   ·rw [if_pos c2] at H
    have c2b0 : decide (x6_1 < (a0.size : Int)) = true := decide_eq_true c2
    clear c2
    by_cases c3 : 0 ≤ x6_1
    ·rw [if_pos c3] at H
     have c3b0 : decide (0 ≤ x6_1) = true := decide_eq_true c3
     clear c3
     by_cases c4 : x6_1 < (a0.size : Int)
     ·rw [if_pos c4] at H
      have c4b0 : decide (x6_1 < (a0.size : Int)) = true := decide_eq_true c4
      clear c4
      replace H := Option.bind_eq_some_iff.mp H
      obtain ⟨t102, A60, H⟩ := H
      replace H : (if t102 = true then (ver_digits.l0 k1 a0 (a0.size : Int) (wrap64 (x6_1 + 1))) else (some false)) = some r := H
      have A6 := Aside0.mk A60
      clear A60
      by_cases c7 : t102 = true
      ·subst c7
       have H1 : (ver_digits.l0 k1 a0 (a0.size : Int) (wrap64 (x6_1 + 1))) = some r := by rw [if_pos rfl] at H; exact H
       clear H
       have H := H1
       clear H1
       have H' := Aside0.mk H
       clear H
       have p5 : 0 ≤ (x6_1 : Int) := of_decide_eq_true (by first | (with_reducible assumption) | assumption)
       have q5 : x6_1 < (a0.size : Int) := of_decide_eq_true (by first | (with_reducible assumption) | assumption)
       have hx5 := bt_at a0 x6_1
       replace p5 := eq_true p5
       replace q5 := eq_true q5
       go_wp2_with (first | ((with_reducible refine gate_callee (f := 69) rfl ?_); refine goesL_ (some 12) rfl rfl Tryd.func69 (by kernel_rfl) rfl #[.int .u8 (bt a0 x6_1)] rfl (by (try simp only [List.map_toArray, List.map_cons, List.map_nil]); first | done | rfl) ?_; (with_reducible refine (ver_digit.calls (bt a0 x6_1) true _ A6.out).mono ?_); rintro e w' ⟨rfl, ⟨nd, rfl⟩⟩; refine ⟨_, rfl, ?_⟩) | (go_at_call 69; (with_reducible refine (ver_digit.calls (bt a0 x6_1) true _ A6.out).mono ?_); rintro e w' ⟨rfl, ⟨nd, rfl⟩⟩))
       go_roundg k1
       case measure => have := HK1.out; omega
       case rel => exact ⟨(wrap64 (x6_1 + 1)), (by first | rfl | (simp; done) | (simp [*]; done)), H', ⟨by have := HK1.out; omega⟩, by repeat (first | exact Drawn0.refl _ | apply Drawn0.step)⟩
      ·replace c7 := Bool.eq_false_iff.mpr c7
       subst c7
       have H1 : (some false) = some r := by rw [if_neg (show ¬ (false = true) by decide)] at H; exact H
       clear H
       have H := H1
       clear H1
       obtain rfl := Option.some.inj H
       have p5 : 0 ≤ (x6_1 : Int) := of_decide_eq_true (by first | (with_reducible assumption) | assumption)
       have q5 : x6_1 < (a0.size : Int) := of_decide_eq_true (by first | (with_reducible assumption) | assumption)
       have hx5 := bt_at a0 x6_1
       replace p5 := eq_true p5
       replace q5 := eq_true q5
       go_wp2_with (first | ((with_reducible refine gate_callee (f := 69) rfl ?_); refine goesL_ (some 12) rfl rfl Tryd.func69 (by kernel_rfl) rfl #[.int .u8 (bt a0 x6_1)] rfl (by (try simp only [List.map_toArray, List.map_cons, List.map_nil]); first | done | rfl) ?_; (with_reducible refine (ver_digit.calls (bt a0 x6_1) false _ A6.out).mono ?_); rintro e w' ⟨rfl, ⟨nd, rfl⟩⟩; refine ⟨_, rfl, ?_⟩) | (go_at_call 69; (with_reducible refine (ver_digit.calls (bt a0 x6_1) false _ A6.out).mono ?_); rintro e w' ⟨rfl, ⟨nd, rfl⟩⟩))
       go_ret
       exact ⟨by first | rfl | (simp; done) | (simp [*]; done) | (cases a0.toList <;> simp; done) | (cases a0.toList <;> rfl), by repeat (first | exact Drawn0.refl _ | apply Drawn0.step)⟩
     ·rw [if_neg c4] at H
      exact absurd H (by simp)
    ·rw [if_neg c3] at H
     exact absurd H (by simp)
   ·rw [if_neg c2] at H
    have c2b0 : decide (x6_1 < (a0.size : Int)) = false := decide_eq_false c2
    clear c2
    obtain rfl := Option.some.inj H
    go_wp2
    go_ret
    exact ⟨by first | rfl | (simp; done) | (simp [*]; done) | (cases a0.toList <;> simp; done) | (cases a0.toList <;> rfl), by repeat (first | exact Drawn0.refl _ | apply Drawn0.step)⟩
def ver_tight.f (k : Nat) (a0 : ByteArray) : Option (Bool) := if (a0.size : Int) < 2 then (some true) else (if 0 < (a0.size : Int) then (if (bt a0 0) = 48 then ((ver_digits.f k a0).bind fun t103 => (some (!t103))) else (some true)) else (none))
theorem ver_tight.mono : ∀ a0 k, LeO (ver_tight.f k a0) (ver_tight.f (k + 1) a0) := by
 intro a0 k
 unfold ver_tight.f
 repeat' first
   | (with_reducible exact ver_digits.mono _ _)
   | (with_reducible exact LeO.refl _)
   | (with_reducible exact LeO.none _)
   | (with_reducible refine LeO.ite ?_ ?_)
   | (with_reducible refine LeO.bind ?_ (fun _ => ?_))
   | exact ver_digits.mono _ _
   | exact LeO.none _
   | refine LeO.ite ?_ ?_
   | refine LeO.bind ?_ (fun _ => ?_)
set_option maxHeartbeats 8000000 in
set_option maxRecDepth 100000 in
theorem ver_tight.calls (k : Nat) (a0 : ByteArray) (r : Bool) (w : World) (h : ver_tight.f k a0 = some r) :
  Calls Tryd.prog 33 #[.string a0] w fun e w' => e = .returned (.bool r) ∧ Drawn0 w w' := by
 have H : (if (a0.size : Int) < 2 then (some true) else (if 0 < (a0.size : Int) then (if (bt a0 0) = 48 then ((ver_digits.f k a0).bind fun t103 => (some (!t103))) else (some true)) else (none))) = some r := h
 clear h
 by_cases c2 : (a0.size : Int) < 2
 ·rw [if_pos c2] at H
  have c2b0 : decide ((a0.size : Int) < 2) = true := decide_eq_true c2
  have c2b1 : decide (a0.size < 2) = true := decide_eq_true (by omega)
  clear c2
  obtain rfl := Option.some.inj H
  go_enter Tryd.func33, Tryd.ntmps33
  go_wp2
  go_ret
  exact ⟨by first | rfl | (simp; done) | (simp [*]; done), by repeat (first | exact Drawn0.refl _ | apply Drawn0.step)⟩
 ·rw [if_neg c2] at H
  have c2b0 : decide ((a0.size : Int) < 2) = false := decide_eq_false c2
  have c2b1 : decide (a0.size < 2) = false := decide_eq_false (by omega)
  clear c2
  by_cases c3 : 0 < (a0.size : Int)
  ·rw [if_pos c3] at H
   have c3b0 : decide (0 < (a0.size : Int)) = true := decide_eq_true c3
   have c3b1 : decide (0 < a0.size) = true := decide_eq_true (by omega)
   clear c3
   by_cases c5 : (bt a0 0) = 48
   ·rw [if_pos c5] at H
    have c5b0 : ((bt a0 0) == 48) = true := beq_iff_eq.mpr c5
    have c5b1 : ((bt a0 0) != 48) = false := bne_eq_false_iff_eq.mpr c5
    clear c5
    replace H := Option.bind_eq_some_iff.mp H
    obtain ⟨t103, A60, H⟩ := H
    replace H : (some (!t103)) = some r := H
    have A6 := Aside0.mk A60
    clear A60
    obtain rfl := Option.some.inj H
    have p4 : 0 ≤ (0 : Int) := (by omega)
    have q4 : 0 < a0.size := (by have : (0 : Int) < (a0.size : Int) := of_decide_eq_true (by first | (with_reducible assumption) | assumption); omega)
    have hx4 : ∀ h : 0 < a0.size, ((a0[0]'h).toNat : Int) = bt a0 0 := bt_at a0 0
    clear p4
    have qi4 : (0 < (a0.size : Int)) = True := eq_true (of_decide_eq_true (by first | (with_reducible assumption) | assumption))
    replace q4 := eq_true q4
    go_enter Tryd.func33, Tryd.ntmps33
    go_wp2_with (first | (go_at_call 51; (with_reducible refine (ver_digits.calls k a0 t103 _ A6.out).mono ?_); rintro e w' ⟨rfl, ⟨nd, rfl⟩⟩))
    go_ret
    exact ⟨by first | rfl | (simp; done) | (simp [*]; done), by repeat (first | exact Drawn0.refl _ | apply Drawn0.step)⟩
   ·rw [if_neg c5] at H
    have c5b0 : ((bt a0 0) == 48) = false := beq_eq_false_iff_ne.mpr c5
    have c5b1 : ((bt a0 0) != 48) = true := bne_iff_ne.mpr c5
    obtain rfl := Option.some.inj H
    have p4 : 0 ≤ (0 : Int) := (by omega)
    have q4 : 0 < a0.size := (by have : (0 : Int) < (a0.size : Int) := of_decide_eq_true (by first | (with_reducible assumption) | assumption); omega)
    have hx4 : ∀ h : 0 < a0.size, ((a0[0]'h).toNat : Int) = bt a0 0 := bt_at a0 0
    clear p4
    have qi4 : (0 < (a0.size : Int)) = True := eq_true (of_decide_eq_true (by first | (with_reducible assumption) | assumption))
    replace q4 := eq_true q4
    go_enter Tryd.func33, Tryd.ntmps33
    go_wp2
    go_ret
    exact ⟨by first | rfl | (simp; done) | (simp [*]; done), by repeat (first | exact Drawn0.refl _ | apply Drawn0.step)⟩
  ·rw [if_neg c3] at H
   exact absurd H (by simp)
def cmp_Or_int.l0 : Nat → Int → List Int → Int → Int → Option (Int)
 | 0, _, _, _, _ => none
 | k + 1, x3, x6, x7, x8 => if x8 < x7 then (if 0 ≤ x8 then (if x8 < (x6.length : Int) then (if (rd x6 x8) = x3 then (cmp_Or_int.l0 k x3 x6 x7 (wrap64 (x8 + 1))) else (some (rd x6 x8))) else (none)) else (none)) else (some x3)
def cmp_Or_int.f (k : Nat) (l0 : List Int) : Option (Int) := cmp_Or_int.l0 k 0 l0 (l0.length : Int) 0
theorem cmp_Or_int.mono_l : ∀ k, (∀ y0 y1 y2 y3, LeO (cmp_Or_int.l0 k y0 y1 y2 y3) (cmp_Or_int.l0 (k + 1) y0 y1 y2 y3))
 | 0 => fun _ _ _ _ r h => by simp [cmp_Or_int.l0] at h
 | k + 1 => by
  have ih0 := cmp_Or_int.mono_l k
  ·intro y0 y1 y2 y3
   unfold cmp_Or_int.l0
   repeat' first
   | (with_reducible exact ih0 _ _ _ _)
   | (with_reducible exact LeO.refl _)
   | (with_reducible exact LeO.none _)
   | (with_reducible refine LeO.ite ?_ ?_)
   | (with_reducible refine LeO.bind ?_ (fun _ => ?_))
   | exact ih0 _ _ _ _
   | exact LeO.none _
   | refine LeO.ite ?_ ?_
   | refine LeO.bind ?_ (fun _ => ?_)
theorem cmp_Or_int.mono : ∀ a0 k, LeO (cmp_Or_int.f k a0) (cmp_Or_int.f (k + 1) a0) := by
 intro a0 k
 have ih0 := cmp_Or_int.mono_l k
 unfold cmp_Or_int.f
 repeat' first
   | (with_reducible exact ih0 _ _ _ _)
   | (with_reducible exact LeO.refl _)
   | (with_reducible exact LeO.none _)
   | (with_reducible refine LeO.ite ?_ ?_)
   | (with_reducible refine LeO.bind ?_ (fun _ => ?_))
   | exact ih0 _ _ _ _
   | exact LeO.none _
   | refine LeO.ite ?_ ?_
   | refine LeO.bind ?_ (fun _ => ?_)
set_option maxHeartbeats 8000000 in
set_option maxRecDepth 100000 in
theorem cmp_Or_int.calls (k : Nat) (A0 : Option Addr) (c0 : Nat) (l0 : List Int) (r : Int) (w : World) (hr0 : Kd.C (Kd.int .i64) w A0 l0.length l0) (hc0 : l0.length ≤ c0) (h : cmp_Or_int.f k l0 = some r) :
  Calls Tryd.prog 38 #[.slice A0 l0.length c0] w fun e w' => e = .returned (.int .i64 r) ∧ Drawn0 w w' := by
 have HR0 := Aside0.mk hr0
 have HC0 := Aside0.mk hc0
 clear hr0 hc0
 have H : (cmp_Or_int.l0 k 0 l0 (l0.length : Int) 0) = some r := h
 clear h
 have H' := Aside0.mk H
 clear H
 go_enter Tryd.func38, Tryd.ntmps38
 go_wp2
 go_loopg [8] k (fun kq v8 w' => ∃ (x8_1 : Int), v8 = .int .i64 x8_1 ∧ Aside0 (cmp_Or_int.l0 kq 0 l0 (l0.length : Int) x8_1 = some r) ∧ Aside0 (kq ≤ k) ∧ Drawn0 w w')
 case atStart => exact ⟨(0), (by first | rfl | (simp; done) | (simp [*]; done)), H', ⟨Nat.le_refl _⟩, by repeat (first | exact Drawn0.refl _ | apply Drawn0.step)⟩
 case round =>
  clear H'
  obtain ⟨x8_1, rfl, HA, HK1, ⟨m1, rfl⟩⟩ := hrel
  cases gk with
  | zero => exact absurd HA.out (by simp [cmp_Or_int.l0])
  | succ k1 =>
   have H := HA.out
   clear HA
   simp only [cmp_Or_int.l0] at H
   by_cases c2 : x8_1 < (l0.length : Int)
   ·rw [if_pos c2] at H
    have c2b0 : decide (x8_1 < (l0.length : Int)) = true := decide_eq_true c2
    clear c2
    by_cases c3 : 0 ≤ x8_1
    ·rw [if_pos c3] at H
     have c3b0 : decide (0 ≤ x8_1) = true := decide_eq_true c3
     clear c3
     by_cases c4 : x8_1 < (l0.length : Int)
     ·rw [if_pos c4] at H
      have c4b0 : decide (x8_1 < (l0.length : Int)) = true := decide_eq_true c4
      clear c4
      by_cases c5 : (rd l0 x8_1) = 0
      ·rw [if_pos c5] at H
       have c5b0 : ((rd l0 x8_1) == 0) = true := beq_iff_eq.mpr c5
       have c5b1 : ((rd l0 x8_1) != 0) = false := bne_eq_false_iff_eq.mpr c5
       clear c5
       have H' := Aside0.mk H
       clear H
       have p144 : 0 ≤ (x8_1 : Int) := of_decide_eq_true (by first | (with_reducible assumption) | assumption)
       have q144 : x8_1 < (l0.length : Int) := of_decide_eq_true (by first | (with_reducible assumption) | assumption)
       obtain ⟨ad144, e144, hx144_0⟩ := Kd.at_int HR0.out x8_1 p144 q144
       cases e144
       replace p144 := eq_true p144
       replace q144 := eq_true q144
       go_wp2
       go_roundg k1
       case measure => have := HK1.out; omega
       case rel => exact ⟨(wrap64 (x8_1 + 1)), (by first | rfl | (simp; done) | (simp [*]; done)), H', ⟨by have := HK1.out; omega⟩, by repeat (first | exact Drawn0.refl _ | apply Drawn0.step)⟩
      ·rw [if_neg c5] at H
       have c5b0 : ((rd l0 x8_1) == 0) = false := beq_eq_false_iff_ne.mpr c5
       have c5b1 : ((rd l0 x8_1) != 0) = true := bne_iff_ne.mpr c5
       obtain rfl := Option.some.inj H
       have p144 : 0 ≤ (x8_1 : Int) := of_decide_eq_true (by first | (with_reducible assumption) | assumption)
       have q144 : x8_1 < (l0.length : Int) := of_decide_eq_true (by first | (with_reducible assumption) | assumption)
       obtain ⟨ad144, e144, hx144_0⟩ := Kd.at_int HR0.out x8_1 p144 q144
       cases e144
       replace p144 := eq_true p144
       replace q144 := eq_true q144
       go_wp2
       go_ret
       exact ⟨by first | rfl | (simp; done) | (simp [*]; done), by repeat (first | exact Drawn0.refl _ | apply Drawn0.step)⟩
     ·rw [if_neg c4] at H
      exact absurd H (by simp)
    ·rw [if_neg c3] at H
     exact absurd H (by simp)
   ·rw [if_neg c2] at H
    have c2b0 : decide (x8_1 < (l0.length : Int)) = false := decide_eq_false c2
    clear c2
    obtain rfl := Option.some.inj H
    go_wp2
    go_ret
    exact ⟨by first | rfl | (simp; done) | (simp [*]; done), by repeat (first | exact Drawn0.refl _ | apply Drawn0.step)⟩
def cmp_isNaN_int.f (a0 : Int) : Option (Bool) := some (a0 != a0)
set_option maxHeartbeats 8000000 in
set_option maxRecDepth 100000 in
theorem cmp_isNaN_int.calls (a0 : Int) (r : Bool) (w : World) (h : cmp_isNaN_int.f a0 = some r) :
  Calls Tryd.prog 53 #[.int .i64 a0] w fun e w' => e = .returned (.bool r) ∧ Drawn0 w w' := by
 have H : (some (a0 != a0)) = some r := h
 clear h
 obtain rfl := Option.some.inj H
 go_enter Tryd.func53, Tryd.ntmps53
 go_wp2
 go_ret
 exact ⟨by first | rfl | (simp; done) | (simp [*]; done), by repeat (first | exact Drawn0.refl _ | apply Drawn0.step)⟩
def cmp_Compare_int.f (a0 : Int) (a1 : Int) : Option (Int) := (cmp_isNaN_int.f a0).bind fun t145 => ((cmp_isNaN_int.f a1).bind fun t146 => (if t145 = true then (if t146 = true then (some 0) else (some (-1))) else (if t146 = true then (some 1) else (if a0 < a1 then (some (-1)) else (if a0 > a1 then (some 1) else (some 0))))))
set_option maxHeartbeats 8000000 in
set_option maxRecDepth 100000 in
theorem cmp_Compare_int.calls (a0 : Int) (a1 : Int) (r : Int) (w : World) (h : cmp_Compare_int.f a0 a1 = some r) :
  Calls Tryd.prog 39 #[.int .i64 a0, .int .i64 a1] w fun e w' => e = .returned (.int .i64 r) ∧ Drawn0 w w' := by
 have H : ((cmp_isNaN_int.f a0).bind fun t145 => ((cmp_isNaN_int.f a1).bind fun t146 => (if t145 = true then (if t146 = true then (some 0) else (some (-1))) else (if t146 = true then (some 1) else (if a0 < a1 then (some (-1)) else (if a0 > a1 then (some 1) else (some 0))))))) = some r := h
 clear h
 replace H := Option.bind_eq_some_iff.mp H
 obtain ⟨t145, A30, H⟩ := H
 replace H : ((cmp_isNaN_int.f a1).bind fun t146 => (if t145 = true then (if t146 = true then (some 0) else (some (-1))) else (if t146 = true then (some 1) else (if a0 < a1 then (some (-1)) else (if a0 > a1 then (some 1) else (some 0)))))) = some r := H
 have A3 := Aside0.mk A30
 clear A30
 replace H := Option.bind_eq_some_iff.mp H
 obtain ⟨t146, A40, H⟩ := H
 replace H : (if t145 = true then (if t146 = true then (some 0) else (some (-1))) else (if t146 = true then (some 1) else (if a0 < a1 then (some (-1)) else (if a0 > a1 then (some 1) else (some 0))))) = some r := H
 have A4 := Aside0.mk A40
 clear A40
 by_cases c5 : t145 = true
 ·subst c5
  have H1 : (if t146 = true then (some 0) else (some (-1))) = some r := by rw [if_pos rfl] at H; exact H
  clear H
  have H := H1
  clear H1
  by_cases c6 : t146 = true
  ·subst c6
   have H1 : (some 0) = some r := by rw [if_pos rfl] at H; exact H
   clear H
   have H := H1
   clear H1
   obtain rfl := Option.some.inj H
   go_enter Tryd.func39, Tryd.ntmps39
   go_wp2_with (first | ((with_reducible refine gate_callee (f := 53) rfl ?_); refine goesL_ (some 8) rfl rfl Tryd.func53 (by kernel_rfl) rfl #[.int .i64 a0] rfl (by (try simp only [List.map_toArray, List.map_cons, List.map_nil]); first | done | rfl) ?_; (with_reducible refine (cmp_isNaN_int.calls a0 true _ A3.out).mono ?_); rintro e w' ⟨rfl, ⟨nd, rfl⟩⟩; refine ⟨_, rfl, ?_⟩) | (go_at_call 53; (with_reducible refine (cmp_isNaN_int.calls a0 true _ A3.out).mono ?_); rintro e w' ⟨rfl, ⟨nd, rfl⟩⟩) | ((with_reducible refine gate_callee (f := 53) rfl ?_); refine goesL_ (some 10) rfl rfl Tryd.func53 (by kernel_rfl) rfl #[.int .i64 a1] rfl (by (try simp only [List.map_toArray, List.map_cons, List.map_nil]); first | done | rfl) ?_; (with_reducible refine (cmp_isNaN_int.calls a1 true _ A4.out).mono ?_); rintro e w' ⟨rfl, ⟨nd, rfl⟩⟩; refine ⟨_, rfl, ?_⟩) | (go_at_call 53; (with_reducible refine (cmp_isNaN_int.calls a1 true _ A4.out).mono ?_); rintro e w' ⟨rfl, ⟨nd, rfl⟩⟩))
   go_ret
   exact ⟨by first | rfl | (simp; done) | (simp [*]; done), by repeat (first | exact Drawn0.refl _ | apply Drawn0.step)⟩
  ·replace c6 := Bool.eq_false_iff.mpr c6
   subst c6
   have H1 : (some (-1)) = some r := by rw [if_neg (show ¬ (false = true) by decide)] at H; exact H
   clear H
   have H := H1
   clear H1
   obtain rfl := Option.some.inj H
   go_enter Tryd.func39, Tryd.ntmps39
   go_wp2_with (first | ((with_reducible refine gate_callee (f := 53) rfl ?_); refine goesL_ (some 8) rfl rfl Tryd.func53 (by kernel_rfl) rfl #[.int .i64 a0] rfl (by (try simp only [List.map_toArray, List.map_cons, List.map_nil]); first | done | rfl) ?_; (with_reducible refine (cmp_isNaN_int.calls a0 true _ A3.out).mono ?_); rintro e w' ⟨rfl, ⟨nd, rfl⟩⟩; refine ⟨_, rfl, ?_⟩) | (go_at_call 53; (with_reducible refine (cmp_isNaN_int.calls a0 true _ A3.out).mono ?_); rintro e w' ⟨rfl, ⟨nd, rfl⟩⟩) | ((with_reducible refine gate_callee (f := 53) rfl ?_); refine goesL_ (some 10) rfl rfl Tryd.func53 (by kernel_rfl) rfl #[.int .i64 a1] rfl (by (try simp only [List.map_toArray, List.map_cons, List.map_nil]); first | done | rfl) ?_; (with_reducible refine (cmp_isNaN_int.calls a1 false _ A4.out).mono ?_); rintro e w' ⟨rfl, ⟨nd, rfl⟩⟩; refine ⟨_, rfl, ?_⟩) | (go_at_call 53; (with_reducible refine (cmp_isNaN_int.calls a1 false _ A4.out).mono ?_); rintro e w' ⟨rfl, ⟨nd, rfl⟩⟩))
   go_ret
   exact ⟨by first | rfl | (simp; done) | (simp [*]; done), by repeat (first | exact Drawn0.refl _ | apply Drawn0.step)⟩
 ·replace c5 := Bool.eq_false_iff.mpr c5
  subst c5
  have H1 : (if t146 = true then (some 1) else (if a0 < a1 then (some (-1)) else (if a0 > a1 then (some 1) else (some 0)))) = some r := by rw [if_neg (show ¬ (false = true) by decide)] at H; exact H
  clear H
  have H := H1
  clear H1
  by_cases c7 : t146 = true
  ·subst c7
   have H1 : (some 1) = some r := by rw [if_pos rfl] at H; exact H
   clear H
   have H := H1
   clear H1
   obtain rfl := Option.some.inj H
   go_enter Tryd.func39, Tryd.ntmps39
   go_wp2_with (first | ((with_reducible refine gate_callee (f := 53) rfl ?_); refine goesL_ (some 8) rfl rfl Tryd.func53 (by kernel_rfl) rfl #[.int .i64 a0] rfl (by (try simp only [List.map_toArray, List.map_cons, List.map_nil]); first | done | rfl) ?_; (with_reducible refine (cmp_isNaN_int.calls a0 false _ A3.out).mono ?_); rintro e w' ⟨rfl, ⟨nd, rfl⟩⟩; refine ⟨_, rfl, ?_⟩) | (go_at_call 53; (with_reducible refine (cmp_isNaN_int.calls a0 false _ A3.out).mono ?_); rintro e w' ⟨rfl, ⟨nd, rfl⟩⟩) | ((with_reducible refine gate_callee (f := 53) rfl ?_); refine goesL_ (some 10) rfl rfl Tryd.func53 (by kernel_rfl) rfl #[.int .i64 a1] rfl (by (try simp only [List.map_toArray, List.map_cons, List.map_nil]); first | done | rfl) ?_; (with_reducible refine (cmp_isNaN_int.calls a1 true _ A4.out).mono ?_); rintro e w' ⟨rfl, ⟨nd, rfl⟩⟩; refine ⟨_, rfl, ?_⟩) | (go_at_call 53; (with_reducible refine (cmp_isNaN_int.calls a1 true _ A4.out).mono ?_); rintro e w' ⟨rfl, ⟨nd, rfl⟩⟩))
   go_ret
   exact ⟨by first | rfl | (simp; done) | (simp [*]; done), by repeat (first | exact Drawn0.refl _ | apply Drawn0.step)⟩
  ·replace c7 := Bool.eq_false_iff.mpr c7
   subst c7
   have H1 : (if a0 < a1 then (some (-1)) else (if a0 > a1 then (some 1) else (some 0))) = some r := by rw [if_neg (show ¬ (false = true) by decide)] at H; exact H
   clear H
   have H := H1
   clear H1
   by_cases c8 : a0 < a1
   ·rw [if_pos c8] at H
    have c8b0 : decide (a0 < a1) = true := decide_eq_true c8
    clear c8
    obtain rfl := Option.some.inj H
    go_enter Tryd.func39, Tryd.ntmps39
    go_wp2_with (first | ((with_reducible refine gate_callee (f := 53) rfl ?_); refine goesL_ (some 8) rfl rfl Tryd.func53 (by kernel_rfl) rfl #[.int .i64 a0] rfl (by (try simp only [List.map_toArray, List.map_cons, List.map_nil]); first | done | rfl) ?_; (with_reducible refine (cmp_isNaN_int.calls a0 false _ A3.out).mono ?_); rintro e w' ⟨rfl, ⟨nd, rfl⟩⟩; refine ⟨_, rfl, ?_⟩) | (go_at_call 53; (with_reducible refine (cmp_isNaN_int.calls a0 false _ A3.out).mono ?_); rintro e w' ⟨rfl, ⟨nd, rfl⟩⟩) | ((with_reducible refine gate_callee (f := 53) rfl ?_); refine goesL_ (some 10) rfl rfl Tryd.func53 (by kernel_rfl) rfl #[.int .i64 a1] rfl (by (try simp only [List.map_toArray, List.map_cons, List.map_nil]); first | done | rfl) ?_; (with_reducible refine (cmp_isNaN_int.calls a1 false _ A4.out).mono ?_); rintro e w' ⟨rfl, ⟨nd, rfl⟩⟩; refine ⟨_, rfl, ?_⟩) | (go_at_call 53; (with_reducible refine (cmp_isNaN_int.calls a1 false _ A4.out).mono ?_); rintro e w' ⟨rfl, ⟨nd, rfl⟩⟩))
    go_ret
    exact ⟨by first | rfl | (simp; done) | (simp [*]; done), by repeat (first | exact Drawn0.refl _ | apply Drawn0.step)⟩
   ·rw [if_neg c8] at H
    have c8b0 : decide (a0 < a1) = false := decide_eq_false c8
    clear c8
    by_cases c9 : a0 > a1
    ·rw [if_pos c9] at H
     have c9b0 : decide (a1 < a0) = true := decide_eq_true c9
     clear c9
     obtain rfl := Option.some.inj H
     go_enter Tryd.func39, Tryd.ntmps39
     go_wp2_with (first | ((with_reducible refine gate_callee (f := 53) rfl ?_); refine goesL_ (some 8) rfl rfl Tryd.func53 (by kernel_rfl) rfl #[.int .i64 a0] rfl (by (try simp only [List.map_toArray, List.map_cons, List.map_nil]); first | done | rfl) ?_; (with_reducible refine (cmp_isNaN_int.calls a0 false _ A3.out).mono ?_); rintro e w' ⟨rfl, ⟨nd, rfl⟩⟩; refine ⟨_, rfl, ?_⟩) | (go_at_call 53; (with_reducible refine (cmp_isNaN_int.calls a0 false _ A3.out).mono ?_); rintro e w' ⟨rfl, ⟨nd, rfl⟩⟩) | ((with_reducible refine gate_callee (f := 53) rfl ?_); refine goesL_ (some 10) rfl rfl Tryd.func53 (by kernel_rfl) rfl #[.int .i64 a1] rfl (by (try simp only [List.map_toArray, List.map_cons, List.map_nil]); first | done | rfl) ?_; (with_reducible refine (cmp_isNaN_int.calls a1 false _ A4.out).mono ?_); rintro e w' ⟨rfl, ⟨nd, rfl⟩⟩; refine ⟨_, rfl, ?_⟩) | (go_at_call 53; (with_reducible refine (cmp_isNaN_int.calls a1 false _ A4.out).mono ?_); rintro e w' ⟨rfl, ⟨nd, rfl⟩⟩))
     go_ret
     exact ⟨by first | rfl | (simp; done) | (simp [*]; done), by repeat (first | exact Drawn0.refl _ | apply Drawn0.step)⟩
    ·rw [if_neg c9] at H
     have c9b0 : decide (a1 < a0) = false := decide_eq_false c9
     clear c9
     obtain rfl := Option.some.inj H
     go_enter Tryd.func39, Tryd.ntmps39
     go_wp2_with (first | ((with_reducible refine gate_callee (f := 53) rfl ?_); refine goesL_ (some 8) rfl rfl Tryd.func53 (by kernel_rfl) rfl #[.int .i64 a0] rfl (by (try simp only [List.map_toArray, List.map_cons, List.map_nil]); first | done | rfl) ?_; (with_reducible refine (cmp_isNaN_int.calls a0 false _ A3.out).mono ?_); rintro e w' ⟨rfl, ⟨nd, rfl⟩⟩; refine ⟨_, rfl, ?_⟩) | (go_at_call 53; (with_reducible refine (cmp_isNaN_int.calls a0 false _ A3.out).mono ?_); rintro e w' ⟨rfl, ⟨nd, rfl⟩⟩) | ((with_reducible refine gate_callee (f := 53) rfl ?_); refine goesL_ (some 10) rfl rfl Tryd.func53 (by kernel_rfl) rfl #[.int .i64 a1] rfl (by (try simp only [List.map_toArray, List.map_cons, List.map_nil]); first | done | rfl) ?_; (with_reducible refine (cmp_isNaN_int.calls a1 false _ A4.out).mono ?_); rintro e w' ⟨rfl, ⟨nd, rfl⟩⟩; refine ⟨_, rfl, ?_⟩) | (go_at_call 53; (with_reducible refine (cmp_isNaN_int.calls a1 false _ A4.out).mono ?_); rintro e w' ⟨rfl, ⟨nd, rfl⟩⟩))
     go_ret
     exact ⟨by first | rfl | (simp; done) | (simp [*]; done), by repeat (first | exact Drawn0.refl _ | apply Drawn0.step)⟩
def armadaref07_num.f (a0 : Int) : Option (Bool) := if a0 ≥ 0 then (some (decide (a0 ≤ 999999999))) else (some false)
set_option maxHeartbeats 8000000 in
set_option maxRecDepth 100000 in
theorem armadaref07_num.calls (a0 : Int) (r : Bool) (w : World) (h : armadaref07_num.f a0 = some r) :
  Calls Tryd.prog 34 #[.int .i64 a0] w fun e w' => e = .returned (.bool r) ∧ Drawn0 w w' := by
 have H : (if a0 ≥ 0 then (some (decide (a0 ≤ 999999999))) else (some false)) = some r := h
 clear h
 by_cases c2 : a0 ≥ 0
 ·rw [if_pos c2] at H
  have c2b0 : decide (0 ≤ a0) = true := decide_eq_true c2
  clear c2
  obtain rfl := Option.some.inj H
  go_enter Tryd.func34, Tryd.ntmps34
  go_wp2
  go_ret
  exact ⟨by first | rfl | (simp; done) | (simp [*]; done), by repeat (first | exact Drawn0.refl _ | apply Drawn0.step)⟩
 ·rw [if_neg c2] at H
  have c2b0 : decide (0 ≤ a0) = false := decide_eq_false c2
  clear c2
  obtain rfl := Option.some.inj H
  go_enter Tryd.func34, Tryd.ntmps34
  go_wp2
  go_ret
  exact ⟨by first | rfl | (simp; done) | (simp [*]; done), by repeat (first | exact Drawn0.refl _ | apply Drawn0.step)⟩
def armadaref05_Split.l0 : Nat → ByteArray → Int → List ByteArray → Int → Int → Option (List ByteArray)
 | 0, _, _, _, _, _ => none
 | k + 1, x0, x1, x5, x6, x7 => if x7 ≤ (x0.size : Int) then (if x7 = (x0.size : Int) then (if 0 ≤ x6 then (if x6 ≤ x7 then (if x5.length < 8796093022208 then (armadaref05_Split.l0 k x0 x1 (x5 ++ [x0.extract (x6 : Int).toNat (x7 : Int).toNat]) (wrap64 (x7 + 1)) (wrap64 (x7 + 1))) else (none)) else (none)) else (none)) else (if 0 ≤ x7 then (if x7 < (x0.size : Int) then (if (bt x0 x7) = x1 then (if 0 ≤ x6 then (if x6 ≤ x7 then (if x5.length < 8796093022208 then (armadaref05_Split.l0 k x0 x1 (x5 ++ [x0.extract (x6 : Int).toNat (x7 : Int).toNat]) (wrap64 (x7 + 1)) (wrap64 (x7 + 1))) else (none)) else (none)) else (none)) else (armadaref05_Split.l0 k x0 x1 x5 x6 (wrap64 (x7 + 1)))) else (none)) else (none))) else (some x5)
def armadaref05_Split.f (k : Nat) (a0 : ByteArray) (a1 : Int) : Option (List ByteArray) := armadaref05_Split.l0 k a0 a1 ([] : List ByteArray) 0 0
theorem armadaref05_Split.mono_l : ∀ k, (∀ y0 y1 y2 y3 y4, LeO (armadaref05_Split.l0 k y0 y1 y2 y3 y4) (armadaref05_Split.l0 (k + 1) y0 y1 y2 y3 y4))
 | 0 => fun _ _ _ _ _ r h => by simp [armadaref05_Split.l0] at h
 | k + 1 => by
  have ih0 := armadaref05_Split.mono_l k
  ·intro y0 y1 y2 y3 y4
   unfold armadaref05_Split.l0
   repeat' first
   | (with_reducible exact ih0 _ _ _ _ _)
   | (with_reducible exact LeO.refl _)
   | (with_reducible exact LeO.none _)
   | (with_reducible refine LeO.ite ?_ ?_)
   | (with_reducible refine LeO.bind ?_ (fun _ => ?_))
   | exact ih0 _ _ _ _ _
   | exact LeO.none _
   | refine LeO.ite ?_ ?_
   | refine LeO.bind ?_ (fun _ => ?_)
theorem armadaref05_Split.mono : ∀ a0 a1 k, LeO (armadaref05_Split.f k a0 a1) (armadaref05_Split.f (k + 1) a0 a1) := by
 intro a0 a1 k
 have ih0 := armadaref05_Split.mono_l k
 unfold armadaref05_Split.f
 repeat' first
   | (with_reducible exact ih0 _ _ _ _ _)
   | (with_reducible exact LeO.refl _)
   | (with_reducible exact LeO.none _)
   | (with_reducible refine LeO.ite ?_ ?_)
   | (with_reducible refine LeO.bind ?_ (fun _ => ?_))
   | exact ih0 _ _ _ _ _
   | exact LeO.none _
   | refine LeO.ite ?_ ?_
   | refine LeO.bind ?_ (fun _ => ?_)
set_option maxHeartbeats 8000000 in
set_option maxRecDepth 100000 in
theorem armadaref05_Split.calls (k : Nat) (a0 : ByteArray) (a1 : Int) (r : List ByteArray) (w : World) (h : armadaref05_Split.f k a0 a1 = some r) :
  Calls Tryd.prog 28 #[.string a0, .int .u8 a1] w fun e w' => ∃ v0_ : Value, e = .returned (v0_) ∧ Kd.R Kd.string 9 w' w.heap.size (fun _ => True) v0_ r ∧ Below w.heap.size w w' := by
 have HB := Aside0.mk (Below.refl w.heap.size w)
 have H : (armadaref05_Split.l0 k a0 a1 ([] : List ByteArray) 0 0) = some r := h
 clear h
 have H' := Aside0.mk H
 clear H
 go_enter Tryd.func28, Tryd.ntmps28
 go_wp2
 go_loopg [5, 6, 7] k (fun kq v5 v6 v7 w' => ∃ (x5_1 : List ByteArray) (x6_1 : Int) (x7_1 : Int), v6 = .int .i64 x6_1 ∧ v7 = .int .i64 x7_1 ∧ Aside0 (armadaref05_Split.l0 kq a0 a1 x5_1 x6_1 x7_1 = some r) ∧ Aside0 (kq ≤ k) ∧ Aside0 (Kd.R Kd.string 9 w' w.heap.size (fun _ => True) v5 x5_1) ∧ Aside0 (Below w.heap.size w w'))
 case atStart => exact ⟨(([] : List ByteArray)), (0), (0), (by first | rfl | (simp; done) | (simp [*]; done)), (by first | rfl | (simp; done) | (simp [*]; done)), H', ⟨Nat.le_refl _⟩, ⟨by first | exact Kd.R_nil _ _ _ _ _ | exact Kd.N_nil _ _ _ _ _ | exact Kd.V_nil _ _ _ _ _ | exact Kd.Q_nil _ _ _ _ _ | exact Kd.S_nil _ _ _ _ _⟩, ⟨by repeat (first | (with_reducible first | exact HB.out | apply yA_ | apply yN_ | apply yD_) | exact HB.out)⟩⟩
 case round =>
  clear H'
  (try clear c2); (try clear p2)
  obtain ⟨x5_1, x6_1, x7_1, rfl, rfl, HA, HK1, HO_5, HB⟩ := hrel
  cases gk with
  | zero => exact absurd HA.out (by simp [armadaref05_Split.l0])
  | succ k1 =>
   have H := HA.out
   clear HA
   simp only [armadaref05_Split.l0] at H
   by_cases c3 : x7_1 ≤ (a0.size : Int)
   ·rw [if_pos c3] at H
    have c3b0 : decide (x7_1 ≤ (a0.size : Int)) = true := decide_eq_true c3
    clear c3
    by_cases c4 : x7_1 = (a0.size : Int)
    ·rw [if_pos c4] at H
     have c4b0 : (x7_1 == (a0.size : Int)) = true := beq_iff_eq.mpr c4
     have c4b1 : (x7_1 != (a0.size : Int)) = false := bne_eq_false_iff_eq.mpr c4
     clear c4
     by_cases c5 : 0 ≤ x6_1
     ·rw [if_pos c5] at H
      have c5b0 := eq_true c5
      have c5b1 : decide (0 ≤ x6_1) = true := decide_eq_true c5
      clear c5
      by_cases c6 : x6_1 ≤ x7_1
      ·rw [if_pos c6] at H
       have c6b0 := eq_true c6
       have c6b1 : decide (x6_1 ≤ x7_1) = true := decide_eq_true c6
       clear c6
       have c7b0 := eq_true (of_decide_eq_true (by first | (with_reducible assumption) | assumption) : x7_1 ≤ (a0.size : Int))
       by_cases c8 : x5_1.length < 8796093022208
       ·rw [if_pos c8] at H
        have LMc8 := Aside0.mk c8
        clear c8
        obtain ⟨y246, hy246⟩ : ∃ y_ : List ByteArray, y_ = (x5_1 ++ [a0.extract (x6_1 : Int).toNat (x7_1 : Int).toNat]) := ⟨_, rfl⟩
        replace H : (armadaref05_Split.l0 k1 a0 a1 y246 (wrap64 (x7_1 + 1)) (wrap64 (x7_1 + 1))) = some r := by first | (rw [hy246]; with_reducible exact H) | (have H2_ := (Option.bind_some _ _).symm.trans H; rw [hy246]; with_reducible exact H2_) | (have H2_ := (Option.bind_some _ _).symm.trans H; with_reducible exact H2_) | with_reducible exact H | (rw [hy246]; exact H) | exact H
        have Ny246 := Aside0.mk hy246
        clear hy246
        have H' := Aside0.mk H
        clear H
        go_wp2_with (first | ((with_reducible refine gate_builtin (b := .append) (xs := #[.tmp 25, .tmp 30]) rfl ?_); at_builtin; refine Kd.R_append Kd.string (w0 := w) w.heap.size rfl (.tmp 25) (.tmp 30) 44 9 (.string ⟨#[]⟩) 16 rfl Tryd.underlying44 info9 rfl (by decide) (by omega) u5 x5_1 (a0.extract (x6_1 : Int).toNat (x7_1 : Int).toNat) [.string (a0.extract (x6_1 : Int).toNat (x7_1 : Int).toNat)] (fun _ => True) (fun _ => False) rfl rfl ?aP (fun _ hk => hk.elim) ?aF ?aO ?aB ?aS ?aL ?_; (case aP => exact rfl); (case aB => exact (by repeat (first | (with_reducible first | exact HB.out | apply yA_ | apply yN_ | apply yD_) | exact HB.out))); (case aF => exact (fun _ _ => trivial)); (case aO => exact (by (with_reducible repeat (first | apply Kd.R_alloc | apply Kd.R_drewN | apply Kd.R_drew)); exact HO_5.out)); (case aS => exact (below_size (by repeat (first | (with_reducible first | exact HB.out | apply yA_ | apply yN_ | apply yD_) | exact HB.out)))); (case aL => have := LMc8.out; omega); intro v247 w9 ho hb hg hat; rw [← Ny246.out] at ho; have n0_ := Aside0.mk (hb); have n1_ := Aside0.mk (ho); clear HB; clear HO_5; have HB := n0_; have HO248 := n1_; clear n0_ n1_; clear ho hb hg hat))
        go_roundg k1
        case measure => have := HK1.out; omega
        case rel => exact ⟨(y246), (wrap64 (x7_1 + 1)), (wrap64 (x7_1 + 1)), (by first | rfl | (simp; done) | (simp [*]; done)), (by first | rfl | (simp; done) | (simp [*]; done)), H', ⟨by have := HK1.out; omega⟩, ⟨by (with_reducible repeat (first | apply Kd.R_alloc | apply Kd.R_drewN | apply Kd.R_drew)); exact HO248.out⟩, ⟨by repeat (first | (with_reducible first | exact HB.out | apply yA_ | apply yN_ | apply yD_) | exact HB.out)⟩⟩
       ·rw [if_neg c8] at H
        exact absurd H (by simp)
      ·rw [if_neg c6] at H
       exact absurd H (by simp)
     ·rw [if_neg c5] at H
      exact absurd H (by simp)
    ·rw [if_neg c4] at H
     have c4b0 : (x7_1 == (a0.size : Int)) = false := beq_eq_false_iff_ne.mpr c4
     have c4b1 : (x7_1 != (a0.size : Int)) = true := bne_iff_ne.mpr c4
     by_cases c10 : 0 ≤ x7_1
     ·rw [if_pos c10] at H
      have c10b0 : decide (0 ≤ x7_1) = true := decide_eq_true c10
      clear c10
      by_cases c11 : x7_1 < (a0.size : Int)
      ·rw [if_pos c11] at H
       have c11b0 : decide (x7_1 < (a0.size : Int)) = true := decide_eq_true c11
       clear c11
       by_cases c13 : (bt a0 x7_1) = a1
       ·rw [if_pos c13] at H
        have c13b0 : ((bt a0 x7_1) == a1) = true := beq_iff_eq.mpr c13
        have c13b1 : ((bt a0 x7_1) != a1) = false := bne_eq_false_iff_eq.mpr c13
        clear c13
        by_cases c14 : 0 ≤ x6_1
        ·rw [if_pos c14] at H
         have c14b0 := eq_true c14
         have c14b1 : decide (0 ≤ x6_1) = true := decide_eq_true c14
         clear c14
         by_cases c15 : x6_1 ≤ x7_1
         ·rw [if_pos c15] at H
          have c15b0 := eq_true c15
          have c15b1 : decide (x6_1 ≤ x7_1) = true := decide_eq_true c15
          clear c15
          have c16b0 := eq_true (of_decide_eq_true (by first | (with_reducible assumption) | assumption) : x7_1 ≤ (a0.size : Int))
          by_cases c17 : x5_1.length < 8796093022208
          ·rw [if_pos c17] at H
           have LMc17 := Aside0.mk c17
           clear c17
           obtain ⟨y249, hy249⟩ : ∃ y_ : List ByteArray, y_ = (x5_1 ++ [a0.extract (x6_1 : Int).toNat (x7_1 : Int).toNat]) := ⟨_, rfl⟩
           replace H : (armadaref05_Split.l0 k1 a0 a1 y249 (wrap64 (x7_1 + 1)) (wrap64 (x7_1 + 1))) = some r := by first | (rw [hy249]; with_reducible exact H) | (have H2_ := (Option.bind_some _ _).symm.trans H; rw [hy249]; with_reducible exact H2_) | (have H2_ := (Option.bind_some _ _).symm.trans H; with_reducible exact H2_) | with_reducible exact H | (rw [hy249]; exact H) | exact H
           have Ny249 := Aside0.mk hy249
           clear hy249
           have H' := Aside0.mk H
           clear H
           have p12 : 0 ≤ (x7_1 : Int) := of_decide_eq_true (by first | (with_reducible assumption) | assumption)
           have q12 : x7_1 < (a0.size : Int) := of_decide_eq_true (by first | (with_reducible assumption) | assumption)
           have hx12 := bt_at a0 x7_1
           replace p12 := eq_true p12
           replace q12 := eq_true q12
           go_wp2_with (first | ((with_reducible refine gate_builtin (b := .append) (xs := #[.tmp 25, .tmp 30]) rfl ?_); at_builtin; refine Kd.R_append Kd.string (w0 := w) w.heap.size rfl (.tmp 25) (.tmp 30) 44 9 (.string ⟨#[]⟩) 16 rfl Tryd.underlying44 info9 rfl (by decide) (by omega) u5 x5_1 (a0.extract (x6_1 : Int).toNat (x7_1 : Int).toNat) [.string (a0.extract (x6_1 : Int).toNat (x7_1 : Int).toNat)] (fun _ => True) (fun _ => False) rfl rfl ?aP (fun _ hk => hk.elim) ?aF ?aO ?aB ?aS ?aL ?_; (case aP => exact rfl); (case aB => exact (by repeat (first | (with_reducible first | exact HB.out | apply yA_ | apply yN_ | apply yD_) | exact HB.out))); (case aF => exact (fun _ _ => trivial)); (case aO => exact (by (with_reducible repeat (first | apply Kd.R_alloc | apply Kd.R_drewN | apply Kd.R_drew)); exact HO_5.out)); (case aS => exact (below_size (by repeat (first | (with_reducible first | exact HB.out | apply yA_ | apply yN_ | apply yD_) | exact HB.out)))); (case aL => have := LMc17.out; omega); intro v250 w18 ho hb hg hat; rw [← Ny249.out] at ho; have n0_ := Aside0.mk (hb); have n1_ := Aside0.mk (ho); clear HB; clear HO_5; have HB := n0_; have HO251 := n1_; clear n0_ n1_; clear ho hb hg hat))
           go_roundg k1
           case measure => have := HK1.out; omega
           case rel => exact ⟨(y249), (wrap64 (x7_1 + 1)), (wrap64 (x7_1 + 1)), (by first | rfl | (simp; done) | (simp [*]; done)), (by first | rfl | (simp; done) | (simp [*]; done)), H', ⟨by have := HK1.out; omega⟩, ⟨by (with_reducible repeat (first | apply Kd.R_alloc | apply Kd.R_drewN | apply Kd.R_drew)); exact HO251.out⟩, ⟨by repeat (first | (with_reducible first | exact HB.out | apply yA_ | apply yN_ | apply yD_) | exact HB.out)⟩⟩
          ·rw [if_neg c17] at H
           exact absurd H (by simp)
         ·rw [if_neg c15] at H
          exact absurd H (by simp)
        ·rw [if_neg c14] at H
         exact absurd H (by simp)
       ·rw [if_neg c13] at H
        have c13b0 : ((bt a0 x7_1) == a1) = false := beq_eq_false_iff_ne.mpr c13
        have c13b1 : ((bt a0 x7_1) != a1) = true := bne_iff_ne.mpr c13
        have H' := Aside0.mk H
        clear H
        have p12 : 0 ≤ (x7_1 : Int) := of_decide_eq_true (by first | (with_reducible assumption) | assumption)
        have q12 : x7_1 < (a0.size : Int) := of_decide_eq_true (by first | (with_reducible assumption) | assumption)
        have hx12 := bt_at a0 x7_1
        replace p12 := eq_true p12
        replace q12 := eq_true q12
        go_wp2
        go_roundg k1
        case measure => have := HK1.out; omega
        case rel => exact ⟨(x5_1), (x6_1), (wrap64 (x7_1 + 1)), (by first | rfl | (simp; done) | (simp [*]; done)), (by first | rfl | (simp; done) | (simp [*]; done)), H', ⟨by have := HK1.out; omega⟩, ⟨by (with_reducible repeat (first | apply Kd.R_alloc | apply Kd.R_drewN | apply Kd.R_drew)); exact HO_5.out⟩, ⟨by repeat (first | (with_reducible first | exact HB.out | apply yA_ | apply yN_ | apply yD_) | exact HB.out)⟩⟩
      ·rw [if_neg c11] at H
       exact absurd H (by simp)
     ·rw [if_neg c10] at H
      exact absurd H (by simp)
   ·rw [if_neg c3] at H
    have c3b0 : decide (x7_1 ≤ (a0.size : Int)) = false := decide_eq_false c3
    clear c3
    obtain rfl := Option.some.inj H
    go_wp2
    go_ret
    exact ⟨_, by first | rfl | (simp [errW_none, errW_some] <;> rfl) | (simp [*, errW_none, errW_some] <;> rfl), by (with_reducible repeat (first | apply Kd.R_alloc | apply Kd.R_drewN | apply Kd.R_drew)); exact HO_5.out, by repeat (first | (with_reducible first | exact HB.out | apply yA_ | apply yN_ | apply yD_) | exact HB.out)⟩
def armadaref07_digits.l0 : Nat → ByteArray → Int → Option (Bool)
 | 0, _, _ => none
 | k + 1, x0, x3 => if x3 < (x0.size : Int) then (if 0 ≤ x3 then (if (bt x0 x3) < 48 then (some false) else (if (bt x0 x3) > 57 then (some false) else (armadaref07_digits.l0 k x0 (wrap64 (x3 + 1))))) else (none)) else (some (x0.toList != ([] : List UInt8)))
def armadaref07_digits.f (k : Nat) (a0 : ByteArray) : Option (Bool) := armadaref07_digits.l0 k a0 0
theorem armadaref07_digits.mono_l : ∀ k, (∀ y0 y1, LeO (armadaref07_digits.l0 k y0 y1) (armadaref07_digits.l0 (k + 1) y0 y1))
 | 0 => fun _ _ r h => by simp [armadaref07_digits.l0] at h
 | k + 1 => by
  have ih0 := armadaref07_digits.mono_l k
  ·intro y0 y1
   unfold armadaref07_digits.l0
   repeat' first
   | (with_reducible exact ih0 _ _)
   | (with_reducible exact LeO.refl _)
   | (with_reducible exact LeO.none _)
   | (with_reducible refine LeO.ite ?_ ?_)
   | (with_reducible refine LeO.bind ?_ (fun _ => ?_))
   | exact ih0 _ _
   | exact LeO.none _
   | refine LeO.ite ?_ ?_
   | refine LeO.bind ?_ (fun _ => ?_)
theorem armadaref07_digits.mono : ∀ a0 k, LeO (armadaref07_digits.f k a0) (armadaref07_digits.f (k + 1) a0) := by
 intro a0 k
 have ih0 := armadaref07_digits.mono_l k
 unfold armadaref07_digits.f
 repeat' first
   | (with_reducible exact ih0 _ _)
   | (with_reducible exact LeO.refl _)
   | (with_reducible exact LeO.none _)
   | (with_reducible refine LeO.ite ?_ ?_)
   | (with_reducible refine LeO.bind ?_ (fun _ => ?_))
   | exact ih0 _ _
   | exact LeO.none _
   | refine LeO.ite ?_ ?_
   | refine LeO.bind ?_ (fun _ => ?_)
set_option maxHeartbeats 8000000 in
set_option maxRecDepth 100000 in
theorem armadaref07_digits.calls (k : Nat) (a0 : ByteArray) (r : Bool) (w : World) (h : armadaref07_digits.f k a0 = some r) :
  Calls Tryd.prog 48 #[.string a0] w fun e w' => e = .returned (.bool r) ∧ Drawn0 w w' := by
 have H : (armadaref07_digits.l0 k a0 0) = some r := h
 clear h
 have H' := Aside0.mk H
 clear H
 go_enter Tryd.func48, Tryd.ntmps48
 go_wp2
 go_loopg [3] k (fun kq v3 w' => ∃ (x3_1 : Int), v3 = .int .i64 x3_1 ∧ Aside0 (armadaref07_digits.l0 kq a0 x3_1 = some r) ∧ Aside0 (kq ≤ k) ∧ Drawn0 w w')
 case atStart => exact ⟨(0), (by first | rfl | (simp; done) | (simp [*]; done)), H', ⟨Nat.le_refl _⟩, by repeat (first | exact Drawn0.refl _ | apply Drawn0.step)⟩
 case round =>
  clear H'
  obtain ⟨x3_1, rfl, HA, HK1, ⟨m1, rfl⟩⟩ := hrel
  cases gk with
  | zero => exact absurd HA.out (by simp [armadaref07_digits.l0])
  | succ k1 =>
   have H := HA.out
   clear HA
   simp only [armadaref07_digits.l0] at H
   by_cases c2 : x3_1 < (a0.size : Int)
   ·rw [if_pos c2] at H
    have c2b0 : decide (x3_1 < (a0.size : Int)) = true := decide_eq_true c2
    clear c2
    by_cases c3 : 0 ≤ x3_1
    ·rw [if_pos c3] at H
     have c3b0 : decide (0 ≤ x3_1) = true := decide_eq_true c3
     clear c3
     by_cases c5 : (bt a0 x3_1) < 48
     ·rw [if_pos c5] at H
      have c5b0 : decide ((bt a0 x3_1) < 48) = true := decide_eq_true c5
      clear c5
      obtain rfl := Option.some.inj H
      have p4 : 0 ≤ (x3_1 : Int) := of_decide_eq_true (by first | (with_reducible assumption) | assumption)
      have q4 : x3_1 < (a0.size : Int) := of_decide_eq_true (by first | (with_reducible assumption) | assumption)
      have hx4 := bt_at a0 x3_1
      replace p4 := eq_true p4
      replace q4 := eq_true q4
      go_wp2
      go_ret
      exact ⟨by first | rfl | (simp; done) | (simp [*]; done) | (cases a0.toList <;> simp; done) | (cases a0.toList <;> rfl), by repeat (first | exact Drawn0.refl _ | apply Drawn0.step)⟩
     ·rw [if_neg c5] at H
      have c5b0 : decide ((bt a0 x3_1) < 48) = false := decide_eq_false c5
      clear c5
      by_cases c7 : (bt a0 x3_1) > 57
      ·rw [if_pos c7] at H
       have c7b0 : decide (57 < (bt a0 x3_1)) = true := decide_eq_true c7
       clear c7
       obtain rfl := Option.some.inj H
       have p4 : 0 ≤ (x3_1 : Int) := of_decide_eq_true (by first | (with_reducible assumption) | assumption)
       have q4 : x3_1 < (a0.size : Int) := of_decide_eq_true (by first | (with_reducible assumption) | assumption)
       have hx4 := bt_at a0 x3_1
       replace p4 := eq_true p4
       replace q4 := eq_true q4
       have p6 : 0 ≤ (x3_1 : Int) := of_decide_eq_true (by first | (with_reducible assumption) | assumption)
       have q6 : x3_1 < (a0.size : Int) := of_decide_eq_true (by first | (with_reducible assumption) | assumption)
       have hx6 := bt_at a0 x3_1
       replace p6 := eq_true p6
       replace q6 := eq_true q6
       go_wp2
       go_ret
       exact ⟨by first | rfl | (simp; done) | (simp [*]; done) | (cases a0.toList <;> simp; done) | (cases a0.toList <;> rfl), by repeat (first | exact Drawn0.refl _ | apply Drawn0.step)⟩
      ·rw [if_neg c7] at H
       have c7b0 : decide (57 < (bt a0 x3_1)) = false := decide_eq_false c7
       clear c7
       have H' := Aside0.mk H
       clear H
       have p4 : 0 ≤ (x3_1 : Int) := of_decide_eq_true (by first | (with_reducible assumption) | assumption)
       have q4 : x3_1 < (a0.size : Int) := of_decide_eq_true (by first | (with_reducible assumption) | assumption)
       have hx4 := bt_at a0 x3_1
       replace p4 := eq_true p4
       replace q4 := eq_true q4
       have p6 : 0 ≤ (x3_1 : Int) := of_decide_eq_true (by first | (with_reducible assumption) | assumption)
       have q6 : x3_1 < (a0.size : Int) := of_decide_eq_true (by first | (with_reducible assumption) | assumption)
       have hx6 := bt_at a0 x3_1
       replace p6 := eq_true p6
       replace q6 := eq_true q6
       go_wp2
       go_roundg k1
       case measure => have := HK1.out; omega
       case rel => exact ⟨(wrap64 (x3_1 + 1)), (by first | rfl | (simp; done) | (simp [*]; done)), H', ⟨by have := HK1.out; omega⟩, by repeat (first | exact Drawn0.refl _ | apply Drawn0.step)⟩
    ·rw [if_neg c3] at H
     exact absurd H (by simp)
   ·rw [if_neg c2] at H
    have c2b0 : decide (x3_1 < (a0.size : Int)) = false := decide_eq_false c2
    clear c2
    obtain rfl := Option.some.inj H
    go_wp2
    go_ret
    exact ⟨by first | rfl | (simp; done) | (simp [*]; done) | (cases a0.toList <;> simp; done) | (cases a0.toList <;> rfl), by repeat (first | exact Drawn0.refl _ | apply Drawn0.step)⟩
mutual
def armadaref07_identifiers.l0 : Nat → Bool → List ByteArray → Int → Option (Bool)
 | 0, _, _, _ => none
 | k + 1, x1, x5, x6 => if x6 < (x5.length : Int) then (armadaref07_identifiers.l1 k x1 x5 x6 0) else (some true)
def armadaref07_identifiers.l1 : Nat → Bool → List ByteArray → Int → Int → Option (Bool)
 | 0, _, _, _, _ => none
 | k + 1, x1, x5, x6, x7 => if 0 ≤ x6 then (if x6 < (x5.length : Int) then (if x7 < ((rdOf ByteArray.empty x5 x6).size : Int) then (if 0 ≤ x7 then (if (bt (rdOf ByteArray.empty x5 x6) x7) ≥ 97 then (if ((bt (rdOf ByteArray.empty x5 x6) x7) ≤ 122) then (armadaref07_identifiers.l1 k x1 x5 x6 (wrap64 (x7 + 1))) else (if (bt (rdOf ByteArray.empty x5 x6) x7) ≥ 65 then (if ((bt (rdOf ByteArray.empty x5 x6) x7) ≤ 90) then (armadaref07_identifiers.l1 k x1 x5 x6 (wrap64 (x7 + 1))) else (if (bt (rdOf ByteArray.empty x5 x6) x7) ≥ 48 then (if ((bt (rdOf ByteArray.empty x5 x6) x7) ≤ 57) then (armadaref07_identifiers.l1 k x1 x5 x6 (wrap64 (x7 + 1))) else (if (bt (rdOf ByteArray.empty x5 x6) x7) = 45 then (armadaref07_identifiers.l1 k x1 x5 x6 (wrap64 (x7 + 1))) else (some false))) else (if (bt (rdOf ByteArray.empty x5 x6) x7) = 45 then (armadaref07_identifiers.l1 k x1 x5 x6 (wrap64 (x7 + 1))) else (some false)))) else (if (bt (rdOf ByteArray.empty x5 x6) x7) ≥ 48 then (if ((bt (rdOf ByteArray.empty x5 x6) x7) ≤ 57) then (armadaref07_identifiers.l1 k x1 x5 x6 (wrap64 (x7 + 1))) else (if (bt (rdOf ByteArray.empty x5 x6) x7) = 45 then (armadaref07_identifiers.l1 k x1 x5 x6 (wrap64 (x7 + 1))) else (some false))) else (if (bt (rdOf ByteArray.empty x5 x6) x7) = 45 then (armadaref07_identifiers.l1 k x1 x5 x6 (wrap64 (x7 + 1))) else (some false))))) else (if (bt (rdOf ByteArray.empty x5 x6) x7) ≥ 65 then (if ((bt (rdOf ByteArray.empty x5 x6) x7) ≤ 90) then (armadaref07_identifiers.l1 k x1 x5 x6 (wrap64 (x7 + 1))) else (if (bt (rdOf ByteArray.empty x5 x6) x7) ≥ 48 then (if ((bt (rdOf ByteArray.empty x5 x6) x7) ≤ 57) then (armadaref07_identifiers.l1 k x1 x5 x6 (wrap64 (x7 + 1))) else (if (bt (rdOf ByteArray.empty x5 x6) x7) = 45 then (armadaref07_identifiers.l1 k x1 x5 x6 (wrap64 (x7 + 1))) else (some false))) else (if (bt (rdOf ByteArray.empty x5 x6) x7) = 45 then (armadaref07_identifiers.l1 k x1 x5 x6 (wrap64 (x7 + 1))) else (some false)))) else (if (bt (rdOf ByteArray.empty x5 x6) x7) ≥ 48 then (if ((bt (rdOf ByteArray.empty x5 x6) x7) ≤ 57) then (armadaref07_identifiers.l1 k x1 x5 x6 (wrap64 (x7 + 1))) else (if (bt (rdOf ByteArray.empty x5 x6) x7) = 45 then (armadaref07_identifiers.l1 k x1 x5 x6 (wrap64 (x7 + 1))) else (some false))) else (if (bt (rdOf ByteArray.empty x5 x6) x7) = 45 then (armadaref07_identifiers.l1 k x1 x5 x6 (wrap64 (x7 + 1))) else (some false))))) else (none)) else (if (rdOf ByteArray.empty x5 x6).toList = ([] : List UInt8) then (some false) else (if x1 = true then (armadaref07_identifiers.l0 k x1 x5 (wrap64 (x6 + 1))) else ((armadaref07_digits.f k (rdOf ByteArray.empty x5 x6)).bind fun t259 => (if t259 = true then (if ((rdOf ByteArray.empty x5 x6).size : Int) > 1 then (if 0 < ((rdOf ByteArray.empty x5 x6).size : Int) then (if (bt (rdOf ByteArray.empty x5 x6) 0) = 48 then (some false) else (armadaref07_identifiers.l0 k x1 x5 (wrap64 (x6 + 1)))) else (none)) else (armadaref07_identifiers.l0 k x1 x5 (wrap64 (x6 + 1)))) else (armadaref07_identifiers.l0 k x1 x5 (wrap64 (x6 + 1)))))))) else (none)) else (none)
end
def armadaref07_identifiers.f (k : Nat) (a0 : ByteArray) (a1 : Bool) : Option (Bool) := (armadaref05_Split.f k a0 46).bind fun t252 => (armadaref07_identifiers.l0 k a1 t252 0)
theorem armadaref07_identifiers.mono_l : ∀ k, (∀ y0 y1 y2, LeO (armadaref07_identifiers.l0 k y0 y1 y2) (armadaref07_identifiers.l0 (k + 1) y0 y1 y2)) ∧ (∀ y0 y1 y2 y3, LeO (armadaref07_identifiers.l1 k y0 y1 y2 y3) (armadaref07_identifiers.l1 (k + 1) y0 y1 y2 y3))
 | 0 => ⟨fun _ _ _ r h => by simp [armadaref07_identifiers.l0] at h, fun _ _ _ _ r h => by simp [armadaref07_identifiers.l1] at h⟩
 | k + 1 => by
  obtain ⟨ih0, ih1⟩ := armadaref07_identifiers.mono_l k
  refine ⟨?_, ?_⟩
  ·intro y0 y1 y2
   unfold armadaref07_identifiers.l0
   repeat' first
   | (with_reducible exact ih0 _ _ _)
   | (with_reducible exact ih1 _ _ _ _)
   | (with_reducible exact armadaref05_Split.mono _ _ _)
   | (with_reducible exact armadaref07_digits.mono _ _)
   | (with_reducible exact LeO.refl _)
   | (with_reducible exact LeO.none _)
   | (with_reducible refine LeO.ite ?_ ?_)
   | (with_reducible refine LeO.bind ?_ (fun _ => ?_))
   | exact ih0 _ _ _
   | exact ih1 _ _ _ _
   | exact armadaref05_Split.mono _ _ _
   | exact armadaref07_digits.mono _ _
   | exact LeO.none _
   | refine LeO.ite ?_ ?_
   | refine LeO.bind ?_ (fun _ => ?_)
  ·intro y0 y1 y2 y3
   unfold armadaref07_identifiers.l1
   repeat' first
   | (with_reducible exact ih0 _ _ _)
   | (with_reducible exact ih1 _ _ _ _)
   | (with_reducible exact armadaref05_Split.mono _ _ _)
   | (with_reducible exact armadaref07_digits.mono _ _)
   | (with_reducible exact LeO.refl _)
   | (with_reducible exact LeO.none _)
   | (with_reducible refine LeO.ite ?_ ?_)
   | (with_reducible refine LeO.bind ?_ (fun _ => ?_))
   | exact ih0 _ _ _
   | exact ih1 _ _ _ _
   | exact armadaref05_Split.mono _ _ _
   | exact armadaref07_digits.mono _ _
   | exact LeO.none _
   | refine LeO.ite ?_ ?_
   | refine LeO.bind ?_ (fun _ => ?_)
theorem armadaref07_identifiers.mono : ∀ a0 a1 k, LeO (armadaref07_identifiers.f k a0 a1) (armadaref07_identifiers.f (k + 1) a0 a1) := by
 intro a0 a1 k
 obtain ⟨ih0, ih1⟩ := armadaref07_identifiers.mono_l k
 unfold armadaref07_identifiers.f
 repeat' first
   | (with_reducible exact ih0 _ _ _)
   | (with_reducible exact ih1 _ _ _ _)
   | (with_reducible exact armadaref05_Split.mono _ _ _)
   | (with_reducible exact armadaref07_digits.mono _ _)
   | (with_reducible exact LeO.refl _)
   | (with_reducible exact LeO.none _)
   | (with_reducible refine LeO.ite ?_ ?_)
   | (with_reducible refine LeO.bind ?_ (fun _ => ?_))
   | exact ih0 _ _ _
   | exact ih1 _ _ _ _
   | exact armadaref05_Split.mono _ _ _
   | exact armadaref07_digits.mono _ _
   | exact LeO.none _
   | refine LeO.ite ?_ ?_
   | refine LeO.bind ?_ (fun _ => ?_)
set_option maxHeartbeats 8000000 in
set_option maxRecDepth 100000 in
theorem armadaref07_identifiers.calls (k : Nat) (a0 : ByteArray) (a1 : Bool) (r : Bool) (w : World) (h : armadaref07_identifiers.f k a0 a1 = some r) :
  Calls Tryd.prog 35 #[.string a0, .bool a1] w fun e w' => e = .returned (.bool r) ∧ Below w.heap.size w w' := by
 have HB := Aside0.mk (Below.refl w.heap.size w)
 have H : ((armadaref05_Split.f k a0 46).bind fun t252 => (armadaref07_identifiers.l0 k a1 t252 0)) = some r := h
 clear h
 replace H := Option.bind_eq_some_iff.mp H
 obtain ⟨t252, A30, H⟩ := H
 replace H : (armadaref07_identifiers.l0 k a1 t252 0) = some r := H
 have A3 := Aside0.mk A30
 clear A30
 have H' := Aside0.mk H
 clear H
 go_enter Tryd.func35, Tryd.ntmps35
 go_wp2_with (first | ((with_reducible refine gate_callee (f := 28) rfl ?_); refine goesL_ (some 10) rfl rfl Tryd.func28 (by kernel_rfl) rfl #[.string a0, .int .u8 46] rfl (by (try simp only [List.map_toArray, List.map_cons, List.map_nil]); first | done | rfl) ?_; (with_reducible refine (armadaref05_Split.calls k a0 46 t252 _ A3.out).mono ?_); rintro e w4 ⟨v253, rfl, ho0, hb⟩; refine ⟨_, rfl, ?_⟩; have n0_ := Aside0.mk (Kd.R_lower ho0 (below_size (by repeat (first | (with_reducible first | exact HB.out | apply yA_ | apply yN_ | apply yD_) | exact HB.out)))); have n1_ := Aside0.mk (below_step (by repeat (first | (with_reducible first | exact HB.out | apply yA_ | apply yN_ | apply yD_) | exact HB.out)) hb); clear HB; have HO254 := n0_; have HB := n1_; clear n0_ n1_; (try clear hb); (try clear hb2); (try clear hk); (try clear hi); (try clear ho0)))
 go_loopg [6] k (fun kq v6 w' => ∃ (x6_1 : Int), v6 = .int .i64 x6_1 ∧ Aside0 (armadaref07_identifiers.l0 kq a1 t252 x6_1 = some r) ∧ Aside0 (kq ≤ k) ∧ Aside0 (Kd.R Kd.string 9 w' w.heap.size (fun _ => True) v253 t252) ∧ Aside0 (Below w.heap.size w w'))
 case atStart => exact ⟨(0), (by first | rfl | (simp; done) | (simp [*]; done)), H', ⟨Nat.le_refl _⟩, ⟨by (with_reducible repeat (first | apply Kd.R_alloc | apply Kd.R_drewN | apply Kd.R_drew)); exact HO254.out⟩, ⟨by repeat (first | (with_reducible first | exact HB.out | apply yA_ | apply yN_ | apply yD_) | exact HB.out)⟩⟩
 case round =>
  clear H'
  (try clear c2); (try clear p2); (try clear c3)
  obtain ⟨x6_1, rfl, HA, HK1, HO_5, HB⟩ := hrel
  cases gk with
  | zero => exact absurd HA.out (by simp [armadaref07_identifiers.l0])
  | succ k1 =>
   have H := HA.out
   clear HA
   simp only [armadaref07_identifiers.l0] at H
   by_cases c5 : x6_1 < (t252.length : Int)
   ·rw [if_pos c5] at H
    have c5b0 : decide (x6_1 < (t252.length : Int)) = true := decide_eq_true c5
    clear c5
    have H' := Aside0.mk H
    clear H
    obtain ⟨Ao6, co6, eo6⟩ := Kd.R_slice HO_5.out
    subst eo6
    go_wp2
    go_loopg [7] k1 (fun kq v7 w' => ∃ (x7_2 : Int), v7 = .int .i64 x7_2 ∧ Aside0 (armadaref07_identifiers.l1 kq a1 t252 x6_1 x7_2 = some r) ∧ Aside0 (kq ≤ k1) ∧ Aside0 (Kd.R Kd.string 9 w' w.heap.size (fun _ => True) (.slice Ao6 t252.length co6) t252) ∧ Aside0 (Below w.heap.size w w'))
    case atStart => exact ⟨(0), (by first | rfl | (simp; done) | (simp [*]; done)), H', ⟨Nat.le_refl _⟩, ⟨by (with_reducible repeat (first | apply Kd.R_alloc | apply Kd.R_drewN | apply Kd.R_drew)); exact HO_5.out⟩, ⟨by repeat (first | (with_reducible first | exact HB.out | apply yA_ | apply yN_ | apply yD_) | exact HB.out)⟩⟩
    case round =>
     clear H'
     (try clear c2); (try clear p2); (try clear c3); (try clear c5); (try clear c5b0); (try clear p2)
     obtain ⟨x7_2, rfl, HA, HK2, HO_5, HB⟩ := hrel
     cases gk with
     | zero => exact absurd HA.out (by simp [armadaref07_identifiers.l1])
     | succ k2 =>
      have H := HA.out
      clear HA
      simp only [armadaref07_identifiers.l1] at H
      by_cases c7 : 0 ≤ x6_1
      ·rw [if_pos c7] at H
       have c7b0 : decide (0 ≤ x6_1) = true := decide_eq_true c7
       clear c7
       by_cases c8 : x6_1 < (t252.length : Int)
       ·rw [if_pos c8] at H
        have c8b0 : decide (x6_1 < (t252.length : Int)) = true := decide_eq_true c8
        clear c8
        by_cases c9 : x7_2 < ((rdOf ByteArray.empty t252 x6_1).size : Int)
        ·rw [if_pos c9] at H
         have c9b0 : decide (x7_2 < ((rdOf ByteArray.empty t252 x6_1).size : Int)) = true := decide_eq_true c9
         clear c9
         by_cases c10 : 0 ≤ x7_2
         ·rw [if_pos c10] at H
          have c10b0 : decide (0 ≤ x7_2) = true := decide_eq_true c10
          clear c10
          by_cases c12 : (bt (rdOf ByteArray.empty t252 x6_1) x7_2) ≥ 97
          ·rw [if_pos c12] at H
           have c12b0 : decide (97 ≤ (bt (rdOf ByteArray.empty t252 x6_1) x7_2)) = true := decide_eq_true c12
           clear c12
           by_cases c13 : ((bt (rdOf ByteArray.empty t252 x6_1) x7_2) ≤ 122)
           ·rw [if_pos c13] at H
            have c13b0 : decide ((bt (rdOf ByteArray.empty t252 x6_1) x7_2) ≤ 122) = true := decide_eq_true c13
            clear c13
            have H' := Aside0.mk H
            clear H
            have p255 : 0 ≤ (x6_1 : Int) := of_decide_eq_true (by first | (with_reducible assumption) | assumption)
            have q255 : x6_1 < (t252.length : Int) := of_decide_eq_true (by first | (with_reducible assumption) | assumption)
            obtain ⟨ad255, e255, hx255_0⟩ := Kd.at_string (Kd.R_reads' HO_5.out).2.2 x6_1 p255 q255
            cases e255
            replace p255 := eq_true p255
            replace q255 := eq_true q255
            have p256 : 0 ≤ (x6_1 : Int) := of_decide_eq_true (by first | (with_reducible assumption) | assumption)
            have q256 : x6_1 < (t252.length : Int) := of_decide_eq_true (by first | (with_reducible assumption) | assumption)
            obtain ⟨ad256, e256, hx256_0⟩ := Kd.at_string (Kd.R_reads' HO_5.out).2.2 x6_1 p256 q256
            obtain rfl : ad255 = ad256 := (by injection e256)
            replace p256 := eq_true p256
            replace q256 := eq_true q256
            have p11 : 0 ≤ (x7_2 : Int) := of_decide_eq_true (by first | (with_reducible assumption) | assumption)
            have q11 : x7_2 < ((rdOf ByteArray.empty t252 x6_1).size : Int) := of_decide_eq_true (by first | (with_reducible assumption) | assumption)
            have hx11 := bt_at (rdOf ByteArray.empty t252 x6_1) x7_2
            replace p11 := eq_true p11
            replace q11 := eq_true q11
            go_wp2
            go_roundg k2
            case measure => have := HK1.out; have := HK2.out; omega
            case rel => exact ⟨(wrap64 (x7_2 + 1)), (by first | rfl | (simp; done) | (simp [*]; done)), H', ⟨by have := HK1.out; have := HK2.out; omega⟩, ⟨by (with_reducible repeat (first | apply Kd.R_alloc | apply Kd.R_drewN | apply Kd.R_drew)); exact HO_5.out⟩, ⟨by repeat (first | (with_reducible first | exact HB.out | apply yA_ | apply yN_ | apply yD_) | exact HB.out)⟩⟩
           ·rw [if_neg c13] at H
            have c13b0 : decide ((bt (rdOf ByteArray.empty t252 x6_1) x7_2) ≤ 122) = false := decide_eq_false c13
            clear c13
            by_cases c14 : (bt (rdOf ByteArray.empty t252 x6_1) x7_2) ≥ 65
            ·rw [if_pos c14] at H
             have c14b0 : decide (65 ≤ (bt (rdOf ByteArray.empty t252 x6_1) x7_2)) = true := decide_eq_true c14
             clear c14
             by_cases c15 : ((bt (rdOf ByteArray.empty t252 x6_1) x7_2) ≤ 90)
             ·rw [if_pos c15] at H
              have c15b0 : decide ((bt (rdOf ByteArray.empty t252 x6_1) x7_2) ≤ 90) = true := decide_eq_true c15
              clear c15
              have H' := Aside0.mk H
              clear H
              have p255 : 0 ≤ (x6_1 : Int) := of_decide_eq_true (by first | (with_reducible assumption) | assumption)
              have q255 : x6_1 < (t252.length : Int) := of_decide_eq_true (by first | (with_reducible assumption) | assumption)
              obtain ⟨ad255, e255, hx255_0⟩ := Kd.at_string (Kd.R_reads' HO_5.out).2.2 x6_1 p255 q255
              cases e255
              replace p255 := eq_true p255
              replace q255 := eq_true q255
              have p256 : 0 ≤ (x6_1 : Int) := of_decide_eq_true (by first | (with_reducible assumption) | assumption)
              have q256 : x6_1 < (t252.length : Int) := of_decide_eq_true (by first | (with_reducible assumption) | assumption)
              obtain ⟨ad256, e256, hx256_0⟩ := Kd.at_string (Kd.R_reads' HO_5.out).2.2 x6_1 p256 q256
              obtain rfl : ad255 = ad256 := (by injection e256)
              replace p256 := eq_true p256
              replace q256 := eq_true q256
              have p11 : 0 ≤ (x7_2 : Int) := of_decide_eq_true (by first | (with_reducible assumption) | assumption)
              have q11 : x7_2 < ((rdOf ByteArray.empty t252 x6_1).size : Int) := of_decide_eq_true (by first | (with_reducible assumption) | assumption)
              have hx11 := bt_at (rdOf ByteArray.empty t252 x6_1) x7_2
              replace p11 := eq_true p11
              replace q11 := eq_true q11
              go_wp2
              go_roundg k2
              case measure => have := HK1.out; have := HK2.out; omega
              case rel => exact ⟨(wrap64 (x7_2 + 1)), (by first | rfl | (simp; done) | (simp [*]; done)), H', ⟨by have := HK1.out; have := HK2.out; omega⟩, ⟨by (with_reducible repeat (first | apply Kd.R_alloc | apply Kd.R_drewN | apply Kd.R_drew)); exact HO_5.out⟩, ⟨by repeat (first | (with_reducible first | exact HB.out | apply yA_ | apply yN_ | apply yD_) | exact HB.out)⟩⟩
             ·rw [if_neg c15] at H
              have c15b0 : decide ((bt (rdOf ByteArray.empty t252 x6_1) x7_2) ≤ 90) = false := decide_eq_false c15
              clear c15
              by_cases c16 : (bt (rdOf ByteArray.empty t252 x6_1) x7_2) ≥ 48
              ·rw [if_pos c16] at H
               have c16b0 : decide (48 ≤ (bt (rdOf ByteArray.empty t252 x6_1) x7_2)) = true := decide_eq_true c16
               clear c16
               by_cases c17 : ((bt (rdOf ByteArray.empty t252 x6_1) x7_2) ≤ 57)
               ·rw [if_pos c17] at H
                have c17b0 : decide ((bt (rdOf ByteArray.empty t252 x6_1) x7_2) ≤ 57) = true := decide_eq_true c17
                clear c17
                have H' := Aside0.mk H
                clear H
                have p255 : 0 ≤ (x6_1 : Int) := of_decide_eq_true (by first | (with_reducible assumption) | assumption)
                have q255 : x6_1 < (t252.length : Int) := of_decide_eq_true (by first | (with_reducible assumption) | assumption)
                obtain ⟨ad255, e255, hx255_0⟩ := Kd.at_string (Kd.R_reads' HO_5.out).2.2 x6_1 p255 q255
                cases e255
                replace p255 := eq_true p255
                replace q255 := eq_true q255
                have p256 : 0 ≤ (x6_1 : Int) := of_decide_eq_true (by first | (with_reducible assumption) | assumption)
                have q256 : x6_1 < (t252.length : Int) := of_decide_eq_true (by first | (with_reducible assumption) | assumption)
                obtain ⟨ad256, e256, hx256_0⟩ := Kd.at_string (Kd.R_reads' HO_5.out).2.2 x6_1 p256 q256
                obtain rfl : ad255 = ad256 := (by injection e256)
                replace p256 := eq_true p256
                replace q256 := eq_true q256
                have p11 : 0 ≤ (x7_2 : Int) := of_decide_eq_true (by first | (with_reducible assumption) | assumption)
                have q11 : x7_2 < ((rdOf ByteArray.empty t252 x6_1).size : Int) := of_decide_eq_true (by first | (with_reducible assumption) | assumption)
                have hx11 := bt_at (rdOf ByteArray.empty t252 x6_1) x7_2
                replace p11 := eq_true p11
                replace q11 := eq_true q11
                go_wp2
                go_roundg k2
                case measure => have := HK1.out; have := HK2.out; omega
                case rel => exact ⟨(wrap64 (x7_2 + 1)), (by first | rfl | (simp; done) | (simp [*]; done)), H', ⟨by have := HK1.out; have := HK2.out; omega⟩, ⟨by (with_reducible repeat (first | apply Kd.R_alloc | apply Kd.R_drewN | apply Kd.R_drew)); exact HO_5.out⟩, ⟨by repeat (first | (with_reducible first | exact HB.out | apply yA_ | apply yN_ | apply yD_) | exact HB.out)⟩⟩
               ·rw [if_neg c17] at H
                have c17b0 : decide ((bt (rdOf ByteArray.empty t252 x6_1) x7_2) ≤ 57) = false := decide_eq_false c17
                clear c17
                by_cases c18 : (bt (rdOf ByteArray.empty t252 x6_1) x7_2) = 45
                ·rw [if_pos c18] at H
                 have c18b0 : ((bt (rdOf ByteArray.empty t252 x6_1) x7_2) == 45) = true := beq_iff_eq.mpr c18
                 have c18b1 : ((bt (rdOf ByteArray.empty t252 x6_1) x7_2) != 45) = false := bne_eq_false_iff_eq.mpr c18
                 clear c18
                 have H' := Aside0.mk H
                 clear H
                 have p255 : 0 ≤ (x6_1 : Int) := of_decide_eq_true (by first | (with_reducible assumption) | assumption)
                 have q255 : x6_1 < (t252.length : Int) := of_decide_eq_true (by first | (with_reducible assumption) | assumption)
                 obtain ⟨ad255, e255, hx255_0⟩ := Kd.at_string (Kd.R_reads' HO_5.out).2.2 x6_1 p255 q255
                 cases e255
                 replace p255 := eq_true p255
                 replace q255 := eq_true q255
                 have p256 : 0 ≤ (x6_1 : Int) := of_decide_eq_true (by first | (with_reducible assumption) | assumption)
                 have q256 : x6_1 < (t252.length : Int) := of_decide_eq_true (by first | (with_reducible assumption) | assumption)
                 obtain ⟨ad256, e256, hx256_0⟩ := Kd.at_string (Kd.R_reads' HO_5.out).2.2 x6_1 p256 q256
                 obtain rfl : ad255 = ad256 := (by injection e256)
                 replace p256 := eq_true p256
                 replace q256 := eq_true q256
                 have p11 : 0 ≤ (x7_2 : Int) := of_decide_eq_true (by first | (with_reducible assumption) | assumption)
                 have q11 : x7_2 < ((rdOf ByteArray.empty t252 x6_1).size : Int) := of_decide_eq_true (by first | (with_reducible assumption) | assumption)
                 have hx11 := bt_at (rdOf ByteArray.empty t252 x6_1) x7_2
                 replace p11 := eq_true p11
                 replace q11 := eq_true q11
                 go_wp2
                 go_roundg k2
                 case measure => have := HK1.out; have := HK2.out; omega
                 case rel => exact ⟨(wrap64 (x7_2 + 1)), (by first | rfl | (simp; done) | (simp [*]; done)), H', ⟨by have := HK1.out; have := HK2.out; omega⟩, ⟨by (with_reducible repeat (first | apply Kd.R_alloc | apply Kd.R_drewN | apply Kd.R_drew)); exact HO_5.out⟩, ⟨by repeat (first | (with_reducible first | exact HB.out | apply yA_ | apply yN_ | apply yD_) | exact HB.out)⟩⟩
                ·rw [if_neg c18] at H
                 have c18b0 : ((bt (rdOf ByteArray.empty t252 x6_1) x7_2) == 45) = false := beq_eq_false_iff_ne.mpr c18
                 have c18b1 : ((bt (rdOf ByteArray.empty t252 x6_1) x7_2) != 45) = true := bne_iff_ne.mpr c18
                 obtain rfl := Option.some.inj H
                 have p255 : 0 ≤ (x6_1 : Int) := of_decide_eq_true (by first | (with_reducible assumption) | assumption)
                 have q255 : x6_1 < (t252.length : Int) := of_decide_eq_true (by first | (with_reducible assumption) | assumption)
                 obtain ⟨ad255, e255, hx255_0⟩ := Kd.at_string (Kd.R_reads' HO_5.out).2.2 x6_1 p255 q255
                 cases e255
                 replace p255 := eq_true p255
                 replace q255 := eq_true q255
                 have p256 : 0 ≤ (x6_1 : Int) := of_decide_eq_true (by first | (with_reducible assumption) | assumption)
                 have q256 : x6_1 < (t252.length : Int) := of_decide_eq_true (by first | (with_reducible assumption) | assumption)
                 obtain ⟨ad256, e256, hx256_0⟩ := Kd.at_string (Kd.R_reads' HO_5.out).2.2 x6_1 p256 q256
                 obtain rfl : ad255 = ad256 := (by injection e256)
                 replace p256 := eq_true p256
                 replace q256 := eq_true q256
                 have p11 : 0 ≤ (x7_2 : Int) := of_decide_eq_true (by first | (with_reducible assumption) | assumption)
                 have q11 : x7_2 < ((rdOf ByteArray.empty t252 x6_1).size : Int) := of_decide_eq_true (by first | (with_reducible assumption) | assumption)
                 have hx11 := bt_at (rdOf ByteArray.empty t252 x6_1) x7_2
                 replace p11 := eq_true p11
                 replace q11 := eq_true q11
                 go_wp2
                 go_ret
                 exact ⟨by first | rfl | (simp [errW_none, errW_some] <;> rfl) | (simp [*, errW_none, errW_some] <;> rfl), by repeat (first | (with_reducible first | exact HB.out | apply yA_ | apply yN_ | apply yD_) | exact HB.out)⟩
              ·rw [if_neg c16] at H
               have c16b0 : decide (48 ≤ (bt (rdOf ByteArray.empty t252 x6_1) x7_2)) = false := decide_eq_false c16
               clear c16
               by_cases c19 : (bt (rdOf ByteArray.empty t252 x6_1) x7_2) = 45
               ·rw [if_pos c19] at H
                have c19b0 : ((bt (rdOf ByteArray.empty t252 x6_1) x7_2) == 45) = true := beq_iff_eq.mpr c19
                have c19b1 : ((bt (rdOf ByteArray.empty t252 x6_1) x7_2) != 45) = false := bne_eq_false_iff_eq.mpr c19
                clear c19
                have H' := Aside0.mk H
                clear H
                have p255 : 0 ≤ (x6_1 : Int) := of_decide_eq_true (by first | (with_reducible assumption) | assumption)
                have q255 : x6_1 < (t252.length : Int) := of_decide_eq_true (by first | (with_reducible assumption) | assumption)
                obtain ⟨ad255, e255, hx255_0⟩ := Kd.at_string (Kd.R_reads' HO_5.out).2.2 x6_1 p255 q255
                cases e255
                replace p255 := eq_true p255
                replace q255 := eq_true q255
                have p256 : 0 ≤ (x6_1 : Int) := of_decide_eq_true (by first | (with_reducible assumption) | assumption)
                have q256 : x6_1 < (t252.length : Int) := of_decide_eq_true (by first | (with_reducible assumption) | assumption)
                obtain ⟨ad256, e256, hx256_0⟩ := Kd.at_string (Kd.R_reads' HO_5.out).2.2 x6_1 p256 q256
                obtain rfl : ad255 = ad256 := (by injection e256)
                replace p256 := eq_true p256
                replace q256 := eq_true q256
                have p11 : 0 ≤ (x7_2 : Int) := of_decide_eq_true (by first | (with_reducible assumption) | assumption)
                have q11 : x7_2 < ((rdOf ByteArray.empty t252 x6_1).size : Int) := of_decide_eq_true (by first | (with_reducible assumption) | assumption)
                have hx11 := bt_at (rdOf ByteArray.empty t252 x6_1) x7_2
                replace p11 := eq_true p11
                replace q11 := eq_true q11
                go_wp2
                go_roundg k2
                case measure => have := HK1.out; have := HK2.out; omega
                case rel => exact ⟨(wrap64 (x7_2 + 1)), (by first | rfl | (simp; done) | (simp [*]; done)), H', ⟨by have := HK1.out; have := HK2.out; omega⟩, ⟨by (with_reducible repeat (first | apply Kd.R_alloc | apply Kd.R_drewN | apply Kd.R_drew)); exact HO_5.out⟩, ⟨by repeat (first | (with_reducible first | exact HB.out | apply yA_ | apply yN_ | apply yD_) | exact HB.out)⟩⟩
               ·rw [if_neg c19] at H
                have c19b0 : ((bt (rdOf ByteArray.empty t252 x6_1) x7_2) == 45) = false := beq_eq_false_iff_ne.mpr c19
                have c19b1 : ((bt (rdOf ByteArray.empty t252 x6_1) x7_2) != 45) = true := bne_iff_ne.mpr c19
                obtain rfl := Option.some.inj H
                have p255 : 0 ≤ (x6_1 : Int) := of_decide_eq_true (by first | (with_reducible assumption) | assumption)
                have q255 : x6_1 < (t252.length : Int) := of_decide_eq_true (by first | (with_reducible assumption) | assumption)
                obtain ⟨ad255, e255, hx255_0⟩ := Kd.at_string (Kd.R_reads' HO_5.out).2.2 x6_1 p255 q255
                cases e255
                replace p255 := eq_true p255
                replace q255 := eq_true q255
                have p256 : 0 ≤ (x6_1 : Int) := of_decide_eq_true (by first | (with_reducible assumption) | assumption)
                have q256 : x6_1 < (t252.length : Int) := of_decide_eq_true (by first | (with_reducible assumption) | assumption)
                obtain ⟨ad256, e256, hx256_0⟩ := Kd.at_string (Kd.R_reads' HO_5.out).2.2 x6_1 p256 q256
                obtain rfl : ad255 = ad256 := (by injection e256)
                replace p256 := eq_true p256
                replace q256 := eq_true q256
                have p11 : 0 ≤ (x7_2 : Int) := of_decide_eq_true (by first | (with_reducible assumption) | assumption)
                have q11 : x7_2 < ((rdOf ByteArray.empty t252 x6_1).size : Int) := of_decide_eq_true (by first | (with_reducible assumption) | assumption)
                have hx11 := bt_at (rdOf ByteArray.empty t252 x6_1) x7_2
                replace p11 := eq_true p11
                replace q11 := eq_true q11
                go_wp2
                go_ret
                exact ⟨by first | rfl | (simp [errW_none, errW_some] <;> rfl) | (simp [*, errW_none, errW_some] <;> rfl), by repeat (first | (with_reducible first | exact HB.out | apply yA_ | apply yN_ | apply yD_) | exact HB.out)⟩
            ·rw [if_neg c14] at H
             have c14b0 : decide (65 ≤ (bt (rdOf ByteArray.empty t252 x6_1) x7_2)) = false := decide_eq_false c14
             clear c14
             by_cases c20 : (bt (rdOf ByteArray.empty t252 x6_1) x7_2) ≥ 48
             ·rw [if_pos c20] at H
              have c20b0 : decide (48 ≤ (bt (rdOf ByteArray.empty t252 x6_1) x7_2)) = true := decide_eq_true c20
              clear c20
              by_cases c21 : ((bt (rdOf ByteArray.empty t252 x6_1) x7_2) ≤ 57)
              ·rw [if_pos c21] at H
               have c21b0 : decide ((bt (rdOf ByteArray.empty t252 x6_1) x7_2) ≤ 57) = true := decide_eq_true c21
               clear c21
               have H' := Aside0.mk H
               clear H
               have p255 : 0 ≤ (x6_1 : Int) := of_decide_eq_true (by first | (with_reducible assumption) | assumption)
               have q255 : x6_1 < (t252.length : Int) := of_decide_eq_true (by first | (with_reducible assumption) | assumption)
               obtain ⟨ad255, e255, hx255_0⟩ := Kd.at_string (Kd.R_reads' HO_5.out).2.2 x6_1 p255 q255
               cases e255
               replace p255 := eq_true p255
               replace q255 := eq_true q255
               have p256 : 0 ≤ (x6_1 : Int) := of_decide_eq_true (by first | (with_reducible assumption) | assumption)
               have q256 : x6_1 < (t252.length : Int) := of_decide_eq_true (by first | (with_reducible assumption) | assumption)
               obtain ⟨ad256, e256, hx256_0⟩ := Kd.at_string (Kd.R_reads' HO_5.out).2.2 x6_1 p256 q256
               obtain rfl : ad255 = ad256 := (by injection e256)
               replace p256 := eq_true p256
               replace q256 := eq_true q256
               have p11 : 0 ≤ (x7_2 : Int) := of_decide_eq_true (by first | (with_reducible assumption) | assumption)
               have q11 : x7_2 < ((rdOf ByteArray.empty t252 x6_1).size : Int) := of_decide_eq_true (by first | (with_reducible assumption) | assumption)
               have hx11 := bt_at (rdOf ByteArray.empty t252 x6_1) x7_2
               replace p11 := eq_true p11
               replace q11 := eq_true q11
               go_wp2
               go_roundg k2
               case measure => have := HK1.out; have := HK2.out; omega
               case rel => exact ⟨(wrap64 (x7_2 + 1)), (by first | rfl | (simp; done) | (simp [*]; done)), H', ⟨by have := HK1.out; have := HK2.out; omega⟩, ⟨by (with_reducible repeat (first | apply Kd.R_alloc | apply Kd.R_drewN | apply Kd.R_drew)); exact HO_5.out⟩, ⟨by repeat (first | (with_reducible first | exact HB.out | apply yA_ | apply yN_ | apply yD_) | exact HB.out)⟩⟩
              ·rw [if_neg c21] at H
               have c21b0 : decide ((bt (rdOf ByteArray.empty t252 x6_1) x7_2) ≤ 57) = false := decide_eq_false c21
               clear c21
               by_cases c22 : (bt (rdOf ByteArray.empty t252 x6_1) x7_2) = 45
               ·rw [if_pos c22] at H
                have c22b0 : ((bt (rdOf ByteArray.empty t252 x6_1) x7_2) == 45) = true := beq_iff_eq.mpr c22
                have c22b1 : ((bt (rdOf ByteArray.empty t252 x6_1) x7_2) != 45) = false := bne_eq_false_iff_eq.mpr c22
                clear c22
                have H' := Aside0.mk H
                clear H
                have p255 : 0 ≤ (x6_1 : Int) := of_decide_eq_true (by first | (with_reducible assumption) | assumption)
                have q255 : x6_1 < (t252.length : Int) := of_decide_eq_true (by first | (with_reducible assumption) | assumption)
                obtain ⟨ad255, e255, hx255_0⟩ := Kd.at_string (Kd.R_reads' HO_5.out).2.2 x6_1 p255 q255
                cases e255
                replace p255 := eq_true p255
                replace q255 := eq_true q255
                have p256 : 0 ≤ (x6_1 : Int) := of_decide_eq_true (by first | (with_reducible assumption) | assumption)
                have q256 : x6_1 < (t252.length : Int) := of_decide_eq_true (by first | (with_reducible assumption) | assumption)
                obtain ⟨ad256, e256, hx256_0⟩ := Kd.at_string (Kd.R_reads' HO_5.out).2.2 x6_1 p256 q256
                obtain rfl : ad255 = ad256 := (by injection e256)
                replace p256 := eq_true p256
                replace q256 := eq_true q256
                have p11 : 0 ≤ (x7_2 : Int) := of_decide_eq_true (by first | (with_reducible assumption) | assumption)
                have q11 : x7_2 < ((rdOf ByteArray.empty t252 x6_1).size : Int) := of_decide_eq_true (by first | (with_reducible assumption) | assumption)
                have hx11 := bt_at (rdOf ByteArray.empty t252 x6_1) x7_2
                replace p11 := eq_true p11
                replace q11 := eq_true q11
                go_wp2
                go_roundg k2
                case measure => have := HK1.out; have := HK2.out; omega
                case rel => exact ⟨(wrap64 (x7_2 + 1)), (by first | rfl | (simp; done) | (simp [*]; done)), H', ⟨by have := HK1.out; have := HK2.out; omega⟩, ⟨by (with_reducible repeat (first | apply Kd.R_alloc | apply Kd.R_drewN | apply Kd.R_drew)); exact HO_5.out⟩, ⟨by repeat (first | (with_reducible first | exact HB.out | apply yA_ | apply yN_ | apply yD_) | exact HB.out)⟩⟩
               ·rw [if_neg c22] at H
                have c22b0 : ((bt (rdOf ByteArray.empty t252 x6_1) x7_2) == 45) = false := beq_eq_false_iff_ne.mpr c22
                have c22b1 : ((bt (rdOf ByteArray.empty t252 x6_1) x7_2) != 45) = true := bne_iff_ne.mpr c22
                obtain rfl := Option.some.inj H
                have p255 : 0 ≤ (x6_1 : Int) := of_decide_eq_true (by first | (with_reducible assumption) | assumption)
                have q255 : x6_1 < (t252.length : Int) := of_decide_eq_true (by first | (with_reducible assumption) | assumption)
                obtain ⟨ad255, e255, hx255_0⟩ := Kd.at_string (Kd.R_reads' HO_5.out).2.2 x6_1 p255 q255
                cases e255
                replace p255 := eq_true p255
                replace q255 := eq_true q255
                have p256 : 0 ≤ (x6_1 : Int) := of_decide_eq_true (by first | (with_reducible assumption) | assumption)
                have q256 : x6_1 < (t252.length : Int) := of_decide_eq_true (by first | (with_reducible assumption) | assumption)
                obtain ⟨ad256, e256, hx256_0⟩ := Kd.at_string (Kd.R_reads' HO_5.out).2.2 x6_1 p256 q256
                obtain rfl : ad255 = ad256 := (by injection e256)
                replace p256 := eq_true p256
                replace q256 := eq_true q256
                have p11 : 0 ≤ (x7_2 : Int) := of_decide_eq_true (by first | (with_reducible assumption) | assumption)
                have q11 : x7_2 < ((rdOf ByteArray.empty t252 x6_1).size : Int) := of_decide_eq_true (by first | (with_reducible assumption) | assumption)
                have hx11 := bt_at (rdOf ByteArray.empty t252 x6_1) x7_2
                replace p11 := eq_true p11
                replace q11 := eq_true q11
                go_wp2
                go_ret
                exact ⟨by first | rfl | (simp [errW_none, errW_some] <;> rfl) | (simp [*, errW_none, errW_some] <;> rfl), by repeat (first | (with_reducible first | exact HB.out | apply yA_ | apply yN_ | apply yD_) | exact HB.out)⟩
             ·rw [if_neg c20] at H
              have c20b0 : decide (48 ≤ (bt (rdOf ByteArray.empty t252 x6_1) x7_2)) = false := decide_eq_false c20
              clear c20
              by_cases c23 : (bt (rdOf ByteArray.empty t252 x6_1) x7_2) = 45
              ·rw [if_pos c23] at H
               have c23b0 : ((bt (rdOf ByteArray.empty t252 x6_1) x7_2) == 45) = true := beq_iff_eq.mpr c23
               have c23b1 : ((bt (rdOf ByteArray.empty t252 x6_1) x7_2) != 45) = false := bne_eq_false_iff_eq.mpr c23
               clear c23
               have H' := Aside0.mk H
               clear H
               have p255 : 0 ≤ (x6_1 : Int) := of_decide_eq_true (by first | (with_reducible assumption) | assumption)
               have q255 : x6_1 < (t252.length : Int) := of_decide_eq_true (by first | (with_reducible assumption) | assumption)
               obtain ⟨ad255, e255, hx255_0⟩ := Kd.at_string (Kd.R_reads' HO_5.out).2.2 x6_1 p255 q255
               cases e255
               replace p255 := eq_true p255
               replace q255 := eq_true q255
               have p256 : 0 ≤ (x6_1 : Int) := of_decide_eq_true (by first | (with_reducible assumption) | assumption)
               have q256 : x6_1 < (t252.length : Int) := of_decide_eq_true (by first | (with_reducible assumption) | assumption)
               obtain ⟨ad256, e256, hx256_0⟩ := Kd.at_string (Kd.R_reads' HO_5.out).2.2 x6_1 p256 q256
               obtain rfl : ad255 = ad256 := (by injection e256)
               replace p256 := eq_true p256
               replace q256 := eq_true q256
               have p11 : 0 ≤ (x7_2 : Int) := of_decide_eq_true (by first | (with_reducible assumption) | assumption)
               have q11 : x7_2 < ((rdOf ByteArray.empty t252 x6_1).size : Int) := of_decide_eq_true (by first | (with_reducible assumption) | assumption)
               have hx11 := bt_at (rdOf ByteArray.empty t252 x6_1) x7_2
               replace p11 := eq_true p11
               replace q11 := eq_true q11
               go_wp2
               go_roundg k2
               case measure => have := HK1.out; have := HK2.out; omega
               case rel => exact ⟨(wrap64 (x7_2 + 1)), (by first | rfl | (simp; done) | (simp [*]; done)), H', ⟨by have := HK1.out; have := HK2.out; omega⟩, ⟨by (with_reducible repeat (first | apply Kd.R_alloc | apply Kd.R_drewN | apply Kd.R_drew)); exact HO_5.out⟩, ⟨by repeat (first | (with_reducible first | exact HB.out | apply yA_ | apply yN_ | apply yD_) | exact HB.out)⟩⟩
              ·rw [if_neg c23] at H
               have c23b0 : ((bt (rdOf ByteArray.empty t252 x6_1) x7_2) == 45) = false := beq_eq_false_iff_ne.mpr c23
               have c23b1 : ((bt (rdOf ByteArray.empty t252 x6_1) x7_2) != 45) = true := bne_iff_ne.mpr c23
               obtain rfl := Option.some.inj H
               have p255 : 0 ≤ (x6_1 : Int) := of_decide_eq_true (by first | (with_reducible assumption) | assumption)
               have q255 : x6_1 < (t252.length : Int) := of_decide_eq_true (by first | (with_reducible assumption) | assumption)
               obtain ⟨ad255, e255, hx255_0⟩ := Kd.at_string (Kd.R_reads' HO_5.out).2.2 x6_1 p255 q255
               cases e255
               replace p255 := eq_true p255
               replace q255 := eq_true q255
               have p256 : 0 ≤ (x6_1 : Int) := of_decide_eq_true (by first | (with_reducible assumption) | assumption)
               have q256 : x6_1 < (t252.length : Int) := of_decide_eq_true (by first | (with_reducible assumption) | assumption)
               obtain ⟨ad256, e256, hx256_0⟩ := Kd.at_string (Kd.R_reads' HO_5.out).2.2 x6_1 p256 q256
               obtain rfl : ad255 = ad256 := (by injection e256)
               replace p256 := eq_true p256
               replace q256 := eq_true q256
               have p11 : 0 ≤ (x7_2 : Int) := of_decide_eq_true (by first | (with_reducible assumption) | assumption)
               have q11 : x7_2 < ((rdOf ByteArray.empty t252 x6_1).size : Int) := of_decide_eq_true (by first | (with_reducible assumption) | assumption)
               have hx11 := bt_at (rdOf ByteArray.empty t252 x6_1) x7_2
               replace p11 := eq_true p11
               replace q11 := eq_true q11
               go_wp2
               go_ret
               exact ⟨by first | rfl | (simp [errW_none, errW_some] <;> rfl) | (simp [*, errW_none, errW_some] <;> rfl), by repeat (first | (with_reducible first | exact HB.out | apply yA_ | apply yN_ | apply yD_) | exact HB.out)⟩
          ·rw [if_neg c12] at H
           have c12b0 : decide (97 ≤ (bt (rdOf ByteArray.empty t252 x6_1) x7_2)) = false := decide_eq_false c12
           clear c12
           by_cases c24 : (bt (rdOf ByteArray.empty t252 x6_1) x7_2) ≥ 65
           ·rw [if_pos c24] at H
            have c24b0 : decide (65 ≤ (bt (rdOf ByteArray.empty t252 x6_1) x7_2)) = true := decide_eq_true c24
            clear c24
            by_cases c25 : ((bt (rdOf ByteArray.empty t252 x6_1) x7_2) ≤ 90)
            ·rw [if_pos c25] at H
             have c25b0 : decide ((bt (rdOf ByteArray.empty t252 x6_1) x7_2) ≤ 90) = true := decide_eq_true c25
             clear c25
             have H' := Aside0.mk H
             clear H
             have p255 : 0 ≤ (x6_1 : Int) := of_decide_eq_true (by first | (with_reducible assumption) | assumption)
             have q255 : x6_1 < (t252.length : Int) := of_decide_eq_true (by first | (with_reducible assumption) | assumption)
             obtain ⟨ad255, e255, hx255_0⟩ := Kd.at_string (Kd.R_reads' HO_5.out).2.2 x6_1 p255 q255
             cases e255
             replace p255 := eq_true p255
             replace q255 := eq_true q255
             have p256 : 0 ≤ (x6_1 : Int) := of_decide_eq_true (by first | (with_reducible assumption) | assumption)
             have q256 : x6_1 < (t252.length : Int) := of_decide_eq_true (by first | (with_reducible assumption) | assumption)
             obtain ⟨ad256, e256, hx256_0⟩ := Kd.at_string (Kd.R_reads' HO_5.out).2.2 x6_1 p256 q256
             obtain rfl : ad255 = ad256 := (by injection e256)
             replace p256 := eq_true p256
             replace q256 := eq_true q256
             have p11 : 0 ≤ (x7_2 : Int) := of_decide_eq_true (by first | (with_reducible assumption) | assumption)
             have q11 : x7_2 < ((rdOf ByteArray.empty t252 x6_1).size : Int) := of_decide_eq_true (by first | (with_reducible assumption) | assumption)
             have hx11 := bt_at (rdOf ByteArray.empty t252 x6_1) x7_2
             replace p11 := eq_true p11
             replace q11 := eq_true q11
             go_wp2
             go_roundg k2
             case measure => have := HK1.out; have := HK2.out; omega
             case rel => exact ⟨(wrap64 (x7_2 + 1)), (by first | rfl | (simp; done) | (simp [*]; done)), H', ⟨by have := HK1.out; have := HK2.out; omega⟩, ⟨by (with_reducible repeat (first | apply Kd.R_alloc | apply Kd.R_drewN | apply Kd.R_drew)); exact HO_5.out⟩, ⟨by repeat (first | (with_reducible first | exact HB.out | apply yA_ | apply yN_ | apply yD_) | exact HB.out)⟩⟩
            ·rw [if_neg c25] at H
             have c25b0 : decide ((bt (rdOf ByteArray.empty t252 x6_1) x7_2) ≤ 90) = false := decide_eq_false c25
             clear c25
             by_cases c26 : (bt (rdOf ByteArray.empty t252 x6_1) x7_2) ≥ 48
             ·rw [if_pos c26] at H
              have c26b0 : decide (48 ≤ (bt (rdOf ByteArray.empty t252 x6_1) x7_2)) = true := decide_eq_true c26
              clear c26
              by_cases c27 : ((bt (rdOf ByteArray.empty t252 x6_1) x7_2) ≤ 57)
              ·rw [if_pos c27] at H
               have c27b0 : decide ((bt (rdOf ByteArray.empty t252 x6_1) x7_2) ≤ 57) = true := decide_eq_true c27
               clear c27
               have H' := Aside0.mk H
               clear H
               have p255 : 0 ≤ (x6_1 : Int) := of_decide_eq_true (by first | (with_reducible assumption) | assumption)
               have q255 : x6_1 < (t252.length : Int) := of_decide_eq_true (by first | (with_reducible assumption) | assumption)
               obtain ⟨ad255, e255, hx255_0⟩ := Kd.at_string (Kd.R_reads' HO_5.out).2.2 x6_1 p255 q255
               cases e255
               replace p255 := eq_true p255
               replace q255 := eq_true q255
               have p256 : 0 ≤ (x6_1 : Int) := of_decide_eq_true (by first | (with_reducible assumption) | assumption)
               have q256 : x6_1 < (t252.length : Int) := of_decide_eq_true (by first | (with_reducible assumption) | assumption)
               obtain ⟨ad256, e256, hx256_0⟩ := Kd.at_string (Kd.R_reads' HO_5.out).2.2 x6_1 p256 q256
               obtain rfl : ad255 = ad256 := (by injection e256)
               replace p256 := eq_true p256
               replace q256 := eq_true q256
               have p11 : 0 ≤ (x7_2 : Int) := of_decide_eq_true (by first | (with_reducible assumption) | assumption)
               have q11 : x7_2 < ((rdOf ByteArray.empty t252 x6_1).size : Int) := of_decide_eq_true (by first | (with_reducible assumption) | assumption)
               have hx11 := bt_at (rdOf ByteArray.empty t252 x6_1) x7_2
               replace p11 := eq_true p11
               replace q11 := eq_true q11
               go_wp2
               go_roundg k2
               case measure => have := HK1.out; have := HK2.out; omega
               case rel => exact ⟨(wrap64 (x7_2 + 1)), (by first | rfl | (simp; done) | (simp [*]; done)), H', ⟨by have := HK1.out; have := HK2.out; omega⟩, ⟨by (with_reducible repeat (first | apply Kd.R_alloc | apply Kd.R_drewN | apply Kd.R_drew)); exact HO_5.out⟩, ⟨by repeat (first | (with_reducible first | exact HB.out | apply yA_ | apply yN_ | apply yD_) | exact HB.out)⟩⟩
              ·rw [if_neg c27] at H
               have c27b0 : decide ((bt (rdOf ByteArray.empty t252 x6_1) x7_2) ≤ 57) = false := decide_eq_false c27
               clear c27
               by_cases c28 : (bt (rdOf ByteArray.empty t252 x6_1) x7_2) = 45
               ·rw [if_pos c28] at H
                have c28b0 : ((bt (rdOf ByteArray.empty t252 x6_1) x7_2) == 45) = true := beq_iff_eq.mpr c28
                have c28b1 : ((bt (rdOf ByteArray.empty t252 x6_1) x7_2) != 45) = false := bne_eq_false_iff_eq.mpr c28
                clear c28
                have H' := Aside0.mk H
                clear H
                have p255 : 0 ≤ (x6_1 : Int) := of_decide_eq_true (by first | (with_reducible assumption) | assumption)
                have q255 : x6_1 < (t252.length : Int) := of_decide_eq_true (by first | (with_reducible assumption) | assumption)
                obtain ⟨ad255, e255, hx255_0⟩ := Kd.at_string (Kd.R_reads' HO_5.out).2.2 x6_1 p255 q255
                cases e255
                replace p255 := eq_true p255
                replace q255 := eq_true q255
                have p256 : 0 ≤ (x6_1 : Int) := of_decide_eq_true (by first | (with_reducible assumption) | assumption)
                have q256 : x6_1 < (t252.length : Int) := of_decide_eq_true (by first | (with_reducible assumption) | assumption)
                obtain ⟨ad256, e256, hx256_0⟩ := Kd.at_string (Kd.R_reads' HO_5.out).2.2 x6_1 p256 q256
                obtain rfl : ad255 = ad256 := (by injection e256)
                replace p256 := eq_true p256
                replace q256 := eq_true q256
                have p11 : 0 ≤ (x7_2 : Int) := of_decide_eq_true (by first | (with_reducible assumption) | assumption)
                have q11 : x7_2 < ((rdOf ByteArray.empty t252 x6_1).size : Int) := of_decide_eq_true (by first | (with_reducible assumption) | assumption)
                have hx11 := bt_at (rdOf ByteArray.empty t252 x6_1) x7_2
                replace p11 := eq_true p11
                replace q11 := eq_true q11
                go_wp2
                go_roundg k2
                case measure => have := HK1.out; have := HK2.out; omega
                case rel => exact ⟨(wrap64 (x7_2 + 1)), (by first | rfl | (simp; done) | (simp [*]; done)), H', ⟨by have := HK1.out; have := HK2.out; omega⟩, ⟨by (with_reducible repeat (first | apply Kd.R_alloc | apply Kd.R_drewN | apply Kd.R_drew)); exact HO_5.out⟩, ⟨by repeat (first | (with_reducible first | exact HB.out | apply yA_ | apply yN_ | apply yD_) | exact HB.out)⟩⟩
               ·rw [if_neg c28] at H
                have c28b0 : ((bt (rdOf ByteArray.empty t252 x6_1) x7_2) == 45) = false := beq_eq_false_iff_ne.mpr c28
                have c28b1 : ((bt (rdOf ByteArray.empty t252 x6_1) x7_2) != 45) = true := bne_iff_ne.mpr c28
                obtain rfl := Option.some.inj H
                have p255 : 0 ≤ (x6_1 : Int) := of_decide_eq_true (by first | (with_reducible assumption) | assumption)
                have q255 : x6_1 < (t252.length : Int) := of_decide_eq_true (by first | (with_reducible assumption) | assumption)
                obtain ⟨ad255, e255, hx255_0⟩ := Kd.at_string (Kd.R_reads' HO_5.out).2.2 x6_1 p255 q255
                cases e255
                replace p255 := eq_true p255
                replace q255 := eq_true q255
                have p256 : 0 ≤ (x6_1 : Int) := of_decide_eq_true (by first | (with_reducible assumption) | assumption)
                have q256 : x6_1 < (t252.length : Int) := of_decide_eq_true (by first | (with_reducible assumption) | assumption)
                obtain ⟨ad256, e256, hx256_0⟩ := Kd.at_string (Kd.R_reads' HO_5.out).2.2 x6_1 p256 q256
                obtain rfl : ad255 = ad256 := (by injection e256)
                replace p256 := eq_true p256
                replace q256 := eq_true q256
                have p11 : 0 ≤ (x7_2 : Int) := of_decide_eq_true (by first | (with_reducible assumption) | assumption)
                have q11 : x7_2 < ((rdOf ByteArray.empty t252 x6_1).size : Int) := of_decide_eq_true (by first | (with_reducible assumption) | assumption)
                have hx11 := bt_at (rdOf ByteArray.empty t252 x6_1) x7_2
                replace p11 := eq_true p11
                replace q11 := eq_true q11
                go_wp2
                go_ret
                exact ⟨by first | rfl | (simp [errW_none, errW_some] <;> rfl) | (simp [*, errW_none, errW_some] <;> rfl), by repeat (first | (with_reducible first | exact HB.out | apply yA_ | apply yN_ | apply yD_) | exact HB.out)⟩
             ·rw [if_neg c26] at H
              have c26b0 : decide (48 ≤ (bt (rdOf ByteArray.empty t252 x6_1) x7_2)) = false := decide_eq_false c26
              clear c26
              by_cases c29 : (bt (rdOf ByteArray.empty t252 x6_1) x7_2) = 45
              ·rw [if_pos c29] at H
               have c29b0 : ((bt (rdOf ByteArray.empty t252 x6_1) x7_2) == 45) = true := beq_iff_eq.mpr c29
               have c29b1 : ((bt (rdOf ByteArray.empty t252 x6_1) x7_2) != 45) = false := bne_eq_false_iff_eq.mpr c29
               clear c29
               have H' := Aside0.mk H
               clear H
               have p255 : 0 ≤ (x6_1 : Int) := of_decide_eq_true (by first | (with_reducible assumption) | assumption)
               have q255 : x6_1 < (t252.length : Int) := of_decide_eq_true (by first | (with_reducible assumption) | assumption)
               obtain ⟨ad255, e255, hx255_0⟩ := Kd.at_string (Kd.R_reads' HO_5.out).2.2 x6_1 p255 q255
               cases e255
               replace p255 := eq_true p255
               replace q255 := eq_true q255
               have p256 : 0 ≤ (x6_1 : Int) := of_decide_eq_true (by first | (with_reducible assumption) | assumption)
               have q256 : x6_1 < (t252.length : Int) := of_decide_eq_true (by first | (with_reducible assumption) | assumption)
               obtain ⟨ad256, e256, hx256_0⟩ := Kd.at_string (Kd.R_reads' HO_5.out).2.2 x6_1 p256 q256
               obtain rfl : ad255 = ad256 := (by injection e256)
               replace p256 := eq_true p256
               replace q256 := eq_true q256
               have p11 : 0 ≤ (x7_2 : Int) := of_decide_eq_true (by first | (with_reducible assumption) | assumption)
               have q11 : x7_2 < ((rdOf ByteArray.empty t252 x6_1).size : Int) := of_decide_eq_true (by first | (with_reducible assumption) | assumption)
               have hx11 := bt_at (rdOf ByteArray.empty t252 x6_1) x7_2
               replace p11 := eq_true p11
               replace q11 := eq_true q11
               go_wp2
               go_roundg k2
               case measure => have := HK1.out; have := HK2.out; omega
               case rel => exact ⟨(wrap64 (x7_2 + 1)), (by first | rfl | (simp; done) | (simp [*]; done)), H', ⟨by have := HK1.out; have := HK2.out; omega⟩, ⟨by (with_reducible repeat (first | apply Kd.R_alloc | apply Kd.R_drewN | apply Kd.R_drew)); exact HO_5.out⟩, ⟨by repeat (first | (with_reducible first | exact HB.out | apply yA_ | apply yN_ | apply yD_) | exact HB.out)⟩⟩
              ·rw [if_neg c29] at H
               have c29b0 : ((bt (rdOf ByteArray.empty t252 x6_1) x7_2) == 45) = false := beq_eq_false_iff_ne.mpr c29
               have c29b1 : ((bt (rdOf ByteArray.empty t252 x6_1) x7_2) != 45) = true := bne_iff_ne.mpr c29
               obtain rfl := Option.some.inj H
               have p255 : 0 ≤ (x6_1 : Int) := of_decide_eq_true (by first | (with_reducible assumption) | assumption)
               have q255 : x6_1 < (t252.length : Int) := of_decide_eq_true (by first | (with_reducible assumption) | assumption)
               obtain ⟨ad255, e255, hx255_0⟩ := Kd.at_string (Kd.R_reads' HO_5.out).2.2 x6_1 p255 q255
               cases e255
               replace p255 := eq_true p255
               replace q255 := eq_true q255
               have p256 : 0 ≤ (x6_1 : Int) := of_decide_eq_true (by first | (with_reducible assumption) | assumption)
               have q256 : x6_1 < (t252.length : Int) := of_decide_eq_true (by first | (with_reducible assumption) | assumption)
               obtain ⟨ad256, e256, hx256_0⟩ := Kd.at_string (Kd.R_reads' HO_5.out).2.2 x6_1 p256 q256
               obtain rfl : ad255 = ad256 := (by injection e256)
               replace p256 := eq_true p256
               replace q256 := eq_true q256
               have p11 : 0 ≤ (x7_2 : Int) := of_decide_eq_true (by first | (with_reducible assumption) | assumption)
               have q11 : x7_2 < ((rdOf ByteArray.empty t252 x6_1).size : Int) := of_decide_eq_true (by first | (with_reducible assumption) | assumption)
               have hx11 := bt_at (rdOf ByteArray.empty t252 x6_1) x7_2
               replace p11 := eq_true p11
               replace q11 := eq_true q11
               go_wp2
               go_ret
               exact ⟨by first | rfl | (simp [errW_none, errW_some] <;> rfl) | (simp [*, errW_none, errW_some] <;> rfl), by repeat (first | (with_reducible first | exact HB.out | apply yA_ | apply yN_ | apply yD_) | exact HB.out)⟩
           ·rw [if_neg c24] at H
            have c24b0 : decide (65 ≤ (bt (rdOf ByteArray.empty t252 x6_1) x7_2)) = false := decide_eq_false c24
            clear c24
            by_cases c30 : (bt (rdOf ByteArray.empty t252 x6_1) x7_2) ≥ 48
            ·rw [if_pos c30] at H
             have c30b0 : decide (48 ≤ (bt (rdOf ByteArray.empty t252 x6_1) x7_2)) = true := decide_eq_true c30
             clear c30
             by_cases c31 : ((bt (rdOf ByteArray.empty t252 x6_1) x7_2) ≤ 57)
             ·rw [if_pos c31] at H
              have c31b0 : decide ((bt (rdOf ByteArray.empty t252 x6_1) x7_2) ≤ 57) = true := decide_eq_true c31
              clear c31
              have H' := Aside0.mk H
              clear H
              have p255 : 0 ≤ (x6_1 : Int) := of_decide_eq_true (by first | (with_reducible assumption) | assumption)
              have q255 : x6_1 < (t252.length : Int) := of_decide_eq_true (by first | (with_reducible assumption) | assumption)
              obtain ⟨ad255, e255, hx255_0⟩ := Kd.at_string (Kd.R_reads' HO_5.out).2.2 x6_1 p255 q255
              cases e255
              replace p255 := eq_true p255
              replace q255 := eq_true q255
              have p256 : 0 ≤ (x6_1 : Int) := of_decide_eq_true (by first | (with_reducible assumption) | assumption)
              have q256 : x6_1 < (t252.length : Int) := of_decide_eq_true (by first | (with_reducible assumption) | assumption)
              obtain ⟨ad256, e256, hx256_0⟩ := Kd.at_string (Kd.R_reads' HO_5.out).2.2 x6_1 p256 q256
              obtain rfl : ad255 = ad256 := (by injection e256)
              replace p256 := eq_true p256
              replace q256 := eq_true q256
              have p11 : 0 ≤ (x7_2 : Int) := of_decide_eq_true (by first | (with_reducible assumption) | assumption)
              have q11 : x7_2 < ((rdOf ByteArray.empty t252 x6_1).size : Int) := of_decide_eq_true (by first | (with_reducible assumption) | assumption)
              have hx11 := bt_at (rdOf ByteArray.empty t252 x6_1) x7_2
              replace p11 := eq_true p11
              replace q11 := eq_true q11
              go_wp2
              go_roundg k2
              case measure => have := HK1.out; have := HK2.out; omega
              case rel => exact ⟨(wrap64 (x7_2 + 1)), (by first | rfl | (simp; done) | (simp [*]; done)), H', ⟨by have := HK1.out; have := HK2.out; omega⟩, ⟨by (with_reducible repeat (first | apply Kd.R_alloc | apply Kd.R_drewN | apply Kd.R_drew)); exact HO_5.out⟩, ⟨by repeat (first | (with_reducible first | exact HB.out | apply yA_ | apply yN_ | apply yD_) | exact HB.out)⟩⟩
             ·rw [if_neg c31] at H
              have c31b0 : decide ((bt (rdOf ByteArray.empty t252 x6_1) x7_2) ≤ 57) = false := decide_eq_false c31
              clear c31
              by_cases c32 : (bt (rdOf ByteArray.empty t252 x6_1) x7_2) = 45
              ·rw [if_pos c32] at H
               have c32b0 : ((bt (rdOf ByteArray.empty t252 x6_1) x7_2) == 45) = true := beq_iff_eq.mpr c32
               have c32b1 : ((bt (rdOf ByteArray.empty t252 x6_1) x7_2) != 45) = false := bne_eq_false_iff_eq.mpr c32
               clear c32
               have H' := Aside0.mk H
               clear H
               have p255 : 0 ≤ (x6_1 : Int) := of_decide_eq_true (by first | (with_reducible assumption) | assumption)
               have q255 : x6_1 < (t252.length : Int) := of_decide_eq_true (by first | (with_reducible assumption) | assumption)
               obtain ⟨ad255, e255, hx255_0⟩ := Kd.at_string (Kd.R_reads' HO_5.out).2.2 x6_1 p255 q255
               cases e255
               replace p255 := eq_true p255
               replace q255 := eq_true q255
               have p256 : 0 ≤ (x6_1 : Int) := of_decide_eq_true (by first | (with_reducible assumption) | assumption)
               have q256 : x6_1 < (t252.length : Int) := of_decide_eq_true (by first | (with_reducible assumption) | assumption)
               obtain ⟨ad256, e256, hx256_0⟩ := Kd.at_string (Kd.R_reads' HO_5.out).2.2 x6_1 p256 q256
               obtain rfl : ad255 = ad256 := (by injection e256)
               replace p256 := eq_true p256
               replace q256 := eq_true q256
               have p11 : 0 ≤ (x7_2 : Int) := of_decide_eq_true (by first | (with_reducible assumption) | assumption)
               have q11 : x7_2 < ((rdOf ByteArray.empty t252 x6_1).size : Int) := of_decide_eq_true (by first | (with_reducible assumption) | assumption)
               have hx11 := bt_at (rdOf ByteArray.empty t252 x6_1) x7_2
               replace p11 := eq_true p11
               replace q11 := eq_true q11
               go_wp2
               go_roundg k2
               case measure => have := HK1.out; have := HK2.out; omega
               case rel => exact ⟨(wrap64 (x7_2 + 1)), (by first | rfl | (simp; done) | (simp [*]; done)), H', ⟨by have := HK1.out; have := HK2.out; omega⟩, ⟨by (with_reducible repeat (first | apply Kd.R_alloc | apply Kd.R_drewN | apply Kd.R_drew)); exact HO_5.out⟩, ⟨by repeat (first | (with_reducible first | exact HB.out | apply yA_ | apply yN_ | apply yD_) | exact HB.out)⟩⟩
              ·rw [if_neg c32] at H
               have c32b0 : ((bt (rdOf ByteArray.empty t252 x6_1) x7_2) == 45) = false := beq_eq_false_iff_ne.mpr c32
               have c32b1 : ((bt (rdOf ByteArray.empty t252 x6_1) x7_2) != 45) = true := bne_iff_ne.mpr c32
               obtain rfl := Option.some.inj H
               have p255 : 0 ≤ (x6_1 : Int) := of_decide_eq_true (by first | (with_reducible assumption) | assumption)
               have q255 : x6_1 < (t252.length : Int) := of_decide_eq_true (by first | (with_reducible assumption) | assumption)
               obtain ⟨ad255, e255, hx255_0⟩ := Kd.at_string (Kd.R_reads' HO_5.out).2.2 x6_1 p255 q255
               cases e255
               replace p255 := eq_true p255
               replace q255 := eq_true q255
               have p256 : 0 ≤ (x6_1 : Int) := of_decide_eq_true (by first | (with_reducible assumption) | assumption)
               have q256 : x6_1 < (t252.length : Int) := of_decide_eq_true (by first | (with_reducible assumption) | assumption)
               obtain ⟨ad256, e256, hx256_0⟩ := Kd.at_string (Kd.R_reads' HO_5.out).2.2 x6_1 p256 q256
               obtain rfl : ad255 = ad256 := (by injection e256)
               replace p256 := eq_true p256
               replace q256 := eq_true q256
               have p11 : 0 ≤ (x7_2 : Int) := of_decide_eq_true (by first | (with_reducible assumption) | assumption)
               have q11 : x7_2 < ((rdOf ByteArray.empty t252 x6_1).size : Int) := of_decide_eq_true (by first | (with_reducible assumption) | assumption)
               have hx11 := bt_at (rdOf ByteArray.empty t252 x6_1) x7_2
               replace p11 := eq_true p11
               replace q11 := eq_true q11
               go_wp2
               go_ret
               exact ⟨by first | rfl | (simp [errW_none, errW_some] <;> rfl) | (simp [*, errW_none, errW_some] <;> rfl), by repeat (first | (with_reducible first | exact HB.out | apply yA_ | apply yN_ | apply yD_) | exact HB.out)⟩
            ·rw [if_neg c30] at H
             have c30b0 : decide (48 ≤ (bt (rdOf ByteArray.empty t252 x6_1) x7_2)) = false := decide_eq_false c30
             clear c30
             by_cases c33 : (bt (rdOf ByteArray.empty t252 x6_1) x7_2) = 45
             ·rw [if_pos c33] at H
              have c33b0 : ((bt (rdOf ByteArray.empty t252 x6_1) x7_2) == 45) = true := beq_iff_eq.mpr c33
              have c33b1 : ((bt (rdOf ByteArray.empty t252 x6_1) x7_2) != 45) = false := bne_eq_false_iff_eq.mpr c33
              clear c33
              have H' := Aside0.mk H
              clear H
              have p255 : 0 ≤ (x6_1 : Int) := of_decide_eq_true (by first | (with_reducible assumption) | assumption)
              have q255 : x6_1 < (t252.length : Int) := of_decide_eq_true (by first | (with_reducible assumption) | assumption)
              obtain ⟨ad255, e255, hx255_0⟩ := Kd.at_string (Kd.R_reads' HO_5.out).2.2 x6_1 p255 q255
              cases e255
              replace p255 := eq_true p255
              replace q255 := eq_true q255
              have p256 : 0 ≤ (x6_1 : Int) := of_decide_eq_true (by first | (with_reducible assumption) | assumption)
              have q256 : x6_1 < (t252.length : Int) := of_decide_eq_true (by first | (with_reducible assumption) | assumption)
              obtain ⟨ad256, e256, hx256_0⟩ := Kd.at_string (Kd.R_reads' HO_5.out).2.2 x6_1 p256 q256
              obtain rfl : ad255 = ad256 := (by injection e256)
              replace p256 := eq_true p256
              replace q256 := eq_true q256
              have p11 : 0 ≤ (x7_2 : Int) := of_decide_eq_true (by first | (with_reducible assumption) | assumption)
              have q11 : x7_2 < ((rdOf ByteArray.empty t252 x6_1).size : Int) := of_decide_eq_true (by first | (with_reducible assumption) | assumption)
              have hx11 := bt_at (rdOf ByteArray.empty t252 x6_1) x7_2
              replace p11 := eq_true p11
              replace q11 := eq_true q11
              go_wp2
              go_roundg k2
              case measure => have := HK1.out; have := HK2.out; omega
              case rel => exact ⟨(wrap64 (x7_2 + 1)), (by first | rfl | (simp; done) | (simp [*]; done)), H', ⟨by have := HK1.out; have := HK2.out; omega⟩, ⟨by (with_reducible repeat (first | apply Kd.R_alloc | apply Kd.R_drewN | apply Kd.R_drew)); exact HO_5.out⟩, ⟨by repeat (first | (with_reducible first | exact HB.out | apply yA_ | apply yN_ | apply yD_) | exact HB.out)⟩⟩
             ·rw [if_neg c33] at H
              have c33b0 : ((bt (rdOf ByteArray.empty t252 x6_1) x7_2) == 45) = false := beq_eq_false_iff_ne.mpr c33
              have c33b1 : ((bt (rdOf ByteArray.empty t252 x6_1) x7_2) != 45) = true := bne_iff_ne.mpr c33
              obtain rfl := Option.some.inj H
              have p255 : 0 ≤ (x6_1 : Int) := of_decide_eq_true (by first | (with_reducible assumption) | assumption)
              have q255 : x6_1 < (t252.length : Int) := of_decide_eq_true (by first | (with_reducible assumption) | assumption)
              obtain ⟨ad255, e255, hx255_0⟩ := Kd.at_string (Kd.R_reads' HO_5.out).2.2 x6_1 p255 q255
              cases e255
              replace p255 := eq_true p255
              replace q255 := eq_true q255
              have p256 : 0 ≤ (x6_1 : Int) := of_decide_eq_true (by first | (with_reducible assumption) | assumption)
              have q256 : x6_1 < (t252.length : Int) := of_decide_eq_true (by first | (with_reducible assumption) | assumption)
              obtain ⟨ad256, e256, hx256_0⟩ := Kd.at_string (Kd.R_reads' HO_5.out).2.2 x6_1 p256 q256
              obtain rfl : ad255 = ad256 := (by injection e256)
              replace p256 := eq_true p256
              replace q256 := eq_true q256
              have p11 : 0 ≤ (x7_2 : Int) := of_decide_eq_true (by first | (with_reducible assumption) | assumption)
              have q11 : x7_2 < ((rdOf ByteArray.empty t252 x6_1).size : Int) := of_decide_eq_true (by first | (with_reducible assumption) | assumption)
              have hx11 := bt_at (rdOf ByteArray.empty t252 x6_1) x7_2
              replace p11 := eq_true p11
              replace q11 := eq_true q11
              go_wp2
              go_ret
              exact ⟨by first | rfl | (simp [errW_none, errW_some] <;> rfl) | (simp [*, errW_none, errW_some] <;> rfl), by repeat (first | (with_reducible first | exact HB.out | apply yA_ | apply yN_ | apply yD_) | exact HB.out)⟩
         ·rw [if_neg c10] at H
          exact absurd H (by simp)
        ·rw [if_neg c9] at H
         have c9b0 : decide (x7_2 < ((rdOf ByteArray.empty t252 x6_1).size : Int)) = false := decide_eq_false c9
         clear c9
         by_cases c34 : (rdOf ByteArray.empty t252 x6_1).toList = ([] : List UInt8)
         ·rw [if_pos c34] at H
          have c34b0 : ((rdOf ByteArray.empty t252 x6_1).toList == ([] : List UInt8)) = true := beq_iff_eq.mpr c34
          have c34b1 : ((rdOf ByteArray.empty t252 x6_1).toList != ([] : List UInt8)) = false := bne_eq_false_iff_eq.mpr c34
          clear c34
          obtain rfl := Option.some.inj H
          have p255 : 0 ≤ (x6_1 : Int) := of_decide_eq_true (by first | (with_reducible assumption) | assumption)
          have q255 : x6_1 < (t252.length : Int) := of_decide_eq_true (by first | (with_reducible assumption) | assumption)
          obtain ⟨ad255, e255, hx255_0⟩ := Kd.at_string (Kd.R_reads' HO_5.out).2.2 x6_1 p255 q255
          cases e255
          replace p255 := eq_true p255
          replace q255 := eq_true q255
          have p257 : 0 ≤ (x6_1 : Int) := of_decide_eq_true (by first | (with_reducible assumption) | assumption)
          have q257 : x6_1 < (t252.length : Int) := of_decide_eq_true (by first | (with_reducible assumption) | assumption)
          obtain ⟨ad257, e257, hx257_0⟩ := Kd.at_string (Kd.R_reads' HO_5.out).2.2 x6_1 p257 q257
          obtain rfl : ad255 = ad257 := (by injection e257)
          replace p257 := eq_true p257
          replace q257 := eq_true q257
          go_wp2
          go_ret
          exact ⟨by first | rfl | (simp [errW_none, errW_some] <;> rfl) | (simp [*, errW_none, errW_some] <;> rfl), by repeat (first | (with_reducible first | exact HB.out | apply yA_ | apply yN_ | apply yD_) | exact HB.out)⟩
         ·rw [if_neg c34] at H
          have c34b0 : ((rdOf ByteArray.empty t252 x6_1).toList == ([] : List UInt8)) = false := beq_eq_false_iff_ne.mpr c34
          have c34b1 : ((rdOf ByteArray.empty t252 x6_1).toList != ([] : List UInt8)) = true := bne_iff_ne.mpr c34
          by_cases c35 : a1 = true
          ·subst c35
           have H1 : (armadaref07_identifiers.l0 k2 true t252 (wrap64 (x6_1 + 1))) = some r := by rw [if_pos rfl] at H; exact H
           clear H
           have H := H1
           clear H1
           have H' := Aside0.mk H
           clear H
           have p255 : 0 ≤ (x6_1 : Int) := of_decide_eq_true (by first | (with_reducible assumption) | assumption)
           have q255 : x6_1 < (t252.length : Int) := of_decide_eq_true (by first | (with_reducible assumption) | assumption)
           obtain ⟨ad255, e255, hx255_0⟩ := Kd.at_string (Kd.R_reads' HO_5.out).2.2 x6_1 p255 q255
           cases e255
           replace p255 := eq_true p255
           replace q255 := eq_true q255
           have p257 : 0 ≤ (x6_1 : Int) := of_decide_eq_true (by first | (with_reducible assumption) | assumption)
           have q257 : x6_1 < (t252.length : Int) := of_decide_eq_true (by first | (with_reducible assumption) | assumption)
           obtain ⟨ad257, e257, hx257_0⟩ := Kd.at_string (Kd.R_reads' HO_5.out).2.2 x6_1 p257 q257
           obtain rfl : ad255 = ad257 := (by injection e257)
           replace p257 := eq_true p257
           replace q257 := eq_true q257
           go_wp2
           go_roundg k2
           case measure => have := HK1.out; have := HK2.out; omega
           case rel => exact ⟨(wrap64 (x6_1 + 1)), (by first | rfl | (simp; done) | (simp [*]; done)), H', ⟨by have := HK1.out; have := HK2.out; omega⟩, ⟨by (with_reducible repeat (first | apply Kd.R_alloc | apply Kd.R_drewN | apply Kd.R_drew)); exact HO_5.out⟩, ⟨by repeat (first | (with_reducible first | exact HB.out | apply yA_ | apply yN_ | apply yD_) | exact HB.out)⟩⟩
          ·replace c35 := Bool.eq_false_iff.mpr c35
           subst c35
           have H1 : ((armadaref07_digits.f k2 (rdOf ByteArray.empty t252 x6_1)).bind fun t259 => (if t259 = true then (if ((rdOf ByteArray.empty t252 x6_1).size : Int) > 1 then (if 0 < ((rdOf ByteArray.empty t252 x6_1).size : Int) then (if (bt (rdOf ByteArray.empty t252 x6_1) 0) = 48 then (some false) else (armadaref07_identifiers.l0 k2 false t252 (wrap64 (x6_1 + 1)))) else (none)) else (armadaref07_identifiers.l0 k2 false t252 (wrap64 (x6_1 + 1)))) else (armadaref07_identifiers.l0 k2 false t252 (wrap64 (x6_1 + 1))))) = some r := by rw [if_neg (show ¬ (false = true) by decide)] at H; exact H
           clear H
           have H := H1
           clear H1
           replace H := Option.bind_eq_some_iff.mp H
           obtain ⟨t259, A360, H⟩ := H
           replace H : (if t259 = true then (if ((rdOf ByteArray.empty t252 x6_1).size : Int) > 1 then (if 0 < ((rdOf ByteArray.empty t252 x6_1).size : Int) then (if (bt (rdOf ByteArray.empty t252 x6_1) 0) = 48 then (some false) else (armadaref07_identifiers.l0 k2 false t252 (wrap64 (x6_1 + 1)))) else (none)) else (armadaref07_identifiers.l0 k2 false t252 (wrap64 (x6_1 + 1)))) else (armadaref07_identifiers.l0 k2 false t252 (wrap64 (x6_1 + 1)))) = some r := H
           have A36 := Aside0.mk A360
           clear A360
           by_cases c37 : t259 = true
           ·subst c37
            have H1 : (if ((rdOf ByteArray.empty t252 x6_1).size : Int) > 1 then (if 0 < ((rdOf ByteArray.empty t252 x6_1).size : Int) then (if (bt (rdOf ByteArray.empty t252 x6_1) 0) = 48 then (some false) else (armadaref07_identifiers.l0 k2 false t252 (wrap64 (x6_1 + 1)))) else (none)) else (armadaref07_identifiers.l0 k2 false t252 (wrap64 (x6_1 + 1)))) = some r := by rw [if_pos rfl] at H; exact H
            clear H
            have H := H1
            clear H1
            by_cases c38 : ((rdOf ByteArray.empty t252 x6_1).size : Int) > 1
            ·rw [if_pos c38] at H
             have c38b0 : decide (1 < ((rdOf ByteArray.empty t252 x6_1).size : Int)) = true := decide_eq_true c38
             have c38b1 : decide (1 < (rdOf ByteArray.empty t252 x6_1).size) = true := decide_eq_true (by omega)
             clear c38
             by_cases c39 : 0 < ((rdOf ByteArray.empty t252 x6_1).size : Int)
             ·rw [if_pos c39] at H
              have c39b0 : decide (0 < ((rdOf ByteArray.empty t252 x6_1).size : Int)) = true := decide_eq_true c39
              have c39b1 : decide (0 < (rdOf ByteArray.empty t252 x6_1).size) = true := decide_eq_true (by omega)
              clear c39
              by_cases c41 : (bt (rdOf ByteArray.empty t252 x6_1) 0) = 48
              ·rw [if_pos c41] at H
               have c41b0 : ((bt (rdOf ByteArray.empty t252 x6_1) 0) == 48) = true := beq_iff_eq.mpr c41
               have c41b1 : ((bt (rdOf ByteArray.empty t252 x6_1) 0) != 48) = false := bne_eq_false_iff_eq.mpr c41
               clear c41
               obtain rfl := Option.some.inj H
               have p255 : 0 ≤ (x6_1 : Int) := of_decide_eq_true (by first | (with_reducible assumption) | assumption)
               have q255 : x6_1 < (t252.length : Int) := of_decide_eq_true (by first | (with_reducible assumption) | assumption)
               obtain ⟨ad255, e255, hx255_0⟩ := Kd.at_string (Kd.R_reads' HO_5.out).2.2 x6_1 p255 q255
               cases e255
               replace p255 := eq_true p255
               replace q255 := eq_true q255
               have p257 : 0 ≤ (x6_1 : Int) := of_decide_eq_true (by first | (with_reducible assumption) | assumption)
               have q257 : x6_1 < (t252.length : Int) := of_decide_eq_true (by first | (with_reducible assumption) | assumption)
               obtain ⟨ad257, e257, hx257_0⟩ := Kd.at_string (Kd.R_reads' HO_5.out).2.2 x6_1 p257 q257
               obtain rfl : ad255 = ad257 := (by injection e257)
               replace p257 := eq_true p257
               replace q257 := eq_true q257
               have p258 : 0 ≤ (x6_1 : Int) := of_decide_eq_true (by first | (with_reducible assumption) | assumption)
               have q258 : x6_1 < (t252.length : Int) := of_decide_eq_true (by first | (with_reducible assumption) | assumption)
               obtain ⟨ad258, e258, hx258_0⟩ := Kd.at_string (Kd.R_reads' HO_5.out).2.2 x6_1 p258 q258
               obtain rfl : ad255 = ad258 := (by injection e258)
               replace p258 := eq_true p258
               replace q258 := eq_true q258
               go_wp2_with (first | (go_at_call 48; (with_reducible refine (armadaref07_digits.calls k2 (rdOf ByteArray.empty t252 x6_1) true _ A36.out).mono ?_); rintro e w' ⟨rfl, ⟨nd, rfl⟩⟩; have p260 : 0 ≤ (x6_1 : Int) := of_decide_eq_true (by first | (with_reducible assumption) | assumption); have q260 : x6_1 < (t252.length : Int) := of_decide_eq_true (by first | (with_reducible assumption) | assumption); obtain ⟨ad260, e260, hx260_0⟩ := Kd.at_string (Kd.R_reads' HO_5.out).2.2 x6_1 p260 q260; obtain rfl : ad255 = ad260 := (by injection e260); replace p260 := eq_true p260; replace q260 := eq_true q260; have p261 : 0 ≤ (x6_1 : Int) := of_decide_eq_true (by first | (with_reducible assumption) | assumption); have q261 : x6_1 < (t252.length : Int) := of_decide_eq_true (by first | (with_reducible assumption) | assumption); obtain ⟨ad261, e261, hx261_0⟩ := Kd.at_string (Kd.R_reads' HO_5.out).2.2 x6_1 p261 q261; obtain rfl : ad255 = ad261 := (by injection e261); replace p261 := eq_true p261; replace q261 := eq_true q261; have p40 : 0 ≤ (0 : Int) := (by omega); have q40 : 0 < (rdOf ByteArray.empty t252 x6_1).size := (by have : (0 : Int) < ((rdOf ByteArray.empty t252 x6_1).size : Int) := of_decide_eq_true (by first | (with_reducible assumption) | assumption); omega); have hx40 : ∀ h : 0 < (rdOf ByteArray.empty t252 x6_1).size, (((rdOf ByteArray.empty t252 x6_1)[0]'h).toNat : Int) = bt (rdOf ByteArray.empty t252 x6_1) 0 := bt_at (rdOf ByteArray.empty t252 x6_1) 0; clear p40; have qi40 : (0 < ((rdOf ByteArray.empty t252 x6_1).size : Int)) = True := eq_true (of_decide_eq_true (by first | (with_reducible assumption) | assumption)); replace q40 := eq_true q40))
               go_ret
               exact ⟨by first | rfl | (simp [errW_none, errW_some] <;> rfl) | (simp [*, errW_none, errW_some] <;> rfl), by repeat (first | (with_reducible first | exact HB.out | apply yA_ | apply yN_ | apply yD_) | exact HB.out)⟩
              ·rw [if_neg c41] at H
               have c41b0 : ((bt (rdOf ByteArray.empty t252 x6_1) 0) == 48) = false := beq_eq_false_iff_ne.mpr c41
               have c41b1 : ((bt (rdOf ByteArray.empty t252 x6_1) 0) != 48) = true := bne_iff_ne.mpr c41
               have H' := Aside0.mk H
               clear H
               have p255 : 0 ≤ (x6_1 : Int) := of_decide_eq_true (by first | (with_reducible assumption) | assumption)
               have q255 : x6_1 < (t252.length : Int) := of_decide_eq_true (by first | (with_reducible assumption) | assumption)
               obtain ⟨ad255, e255, hx255_0⟩ := Kd.at_string (Kd.R_reads' HO_5.out).2.2 x6_1 p255 q255
               cases e255
               replace p255 := eq_true p255
               replace q255 := eq_true q255
               have p257 : 0 ≤ (x6_1 : Int) := of_decide_eq_true (by first | (with_reducible assumption) | assumption)
               have q257 : x6_1 < (t252.length : Int) := of_decide_eq_true (by first | (with_reducible assumption) | assumption)
               obtain ⟨ad257, e257, hx257_0⟩ := Kd.at_string (Kd.R_reads' HO_5.out).2.2 x6_1 p257 q257
               obtain rfl : ad255 = ad257 := (by injection e257)
               replace p257 := eq_true p257
               replace q257 := eq_true q257
               have p258 : 0 ≤ (x6_1 : Int) := of_decide_eq_true (by first | (with_reducible assumption) | assumption)
               have q258 : x6_1 < (t252.length : Int) := of_decide_eq_true (by first | (with_reducible assumption) | assumption)
               obtain ⟨ad258, e258, hx258_0⟩ := Kd.at_string (Kd.R_reads' HO_5.out).2.2 x6_1 p258 q258
               obtain rfl : ad255 = ad258 := (by injection e258)
               replace p258 := eq_true p258
               replace q258 := eq_true q258
               go_wp2_with (first | (go_at_call 48; (with_reducible refine (armadaref07_digits.calls k2 (rdOf ByteArray.empty t252 x6_1) true _ A36.out).mono ?_); rintro e w' ⟨rfl, ⟨nd, rfl⟩⟩; have p260 : 0 ≤ (x6_1 : Int) := of_decide_eq_true (by first | (with_reducible assumption) | assumption); have q260 : x6_1 < (t252.length : Int) := of_decide_eq_true (by first | (with_reducible assumption) | assumption); obtain ⟨ad260, e260, hx260_0⟩ := Kd.at_string (Kd.R_reads' HO_5.out).2.2 x6_1 p260 q260; obtain rfl : ad255 = ad260 := (by injection e260); replace p260 := eq_true p260; replace q260 := eq_true q260; have p261 : 0 ≤ (x6_1 : Int) := of_decide_eq_true (by first | (with_reducible assumption) | assumption); have q261 : x6_1 < (t252.length : Int) := of_decide_eq_true (by first | (with_reducible assumption) | assumption); obtain ⟨ad261, e261, hx261_0⟩ := Kd.at_string (Kd.R_reads' HO_5.out).2.2 x6_1 p261 q261; obtain rfl : ad255 = ad261 := (by injection e261); replace p261 := eq_true p261; replace q261 := eq_true q261; have p40 : 0 ≤ (0 : Int) := (by omega); have q40 : 0 < (rdOf ByteArray.empty t252 x6_1).size := (by have : (0 : Int) < ((rdOf ByteArray.empty t252 x6_1).size : Int) := of_decide_eq_true (by first | (with_reducible assumption) | assumption); omega); have hx40 : ∀ h : 0 < (rdOf ByteArray.empty t252 x6_1).size, (((rdOf ByteArray.empty t252 x6_1)[0]'h).toNat : Int) = bt (rdOf ByteArray.empty t252 x6_1) 0 := bt_at (rdOf ByteArray.empty t252 x6_1) 0; clear p40; have qi40 : (0 < ((rdOf ByteArray.empty t252 x6_1).size : Int)) = True := eq_true (of_decide_eq_true (by first | (with_reducible assumption) | assumption)); replace q40 := eq_true q40))
               go_roundg k2
               case measure => have := HK1.out; have := HK2.out; omega
               case rel => exact ⟨(wrap64 (x6_1 + 1)), (by first | rfl | (simp; done) | (simp [*]; done)), H', ⟨by have := HK1.out; have := HK2.out; omega⟩, ⟨by (with_reducible repeat (first | apply Kd.R_alloc | apply Kd.R_drewN | apply Kd.R_drew)); exact HO_5.out⟩, ⟨by repeat (first | (with_reducible first | exact HB.out | apply yA_ | apply yN_ | apply yD_) | exact HB.out)⟩⟩
             ·rw [if_neg c39] at H
              exact absurd H (by simp)
            ·rw [if_neg c38] at H
             have c38b0 : decide (1 < ((rdOf ByteArray.empty t252 x6_1).size : Int)) = false := decide_eq_false c38
             have c38b1 : decide (1 < (rdOf ByteArray.empty t252 x6_1).size) = false := decide_eq_false (by omega)
             clear c38
             have H' := Aside0.mk H
             clear H
             have p255 : 0 ≤ (x6_1 : Int) := of_decide_eq_true (by first | (with_reducible assumption) | assumption)
             have q255 : x6_1 < (t252.length : Int) := of_decide_eq_true (by first | (with_reducible assumption) | assumption)
             obtain ⟨ad255, e255, hx255_0⟩ := Kd.at_string (Kd.R_reads' HO_5.out).2.2 x6_1 p255 q255
             cases e255
             replace p255 := eq_true p255
             replace q255 := eq_true q255
             have p257 : 0 ≤ (x6_1 : Int) := of_decide_eq_true (by first | (with_reducible assumption) | assumption)
             have q257 : x6_1 < (t252.length : Int) := of_decide_eq_true (by first | (with_reducible assumption) | assumption)
             obtain ⟨ad257, e257, hx257_0⟩ := Kd.at_string (Kd.R_reads' HO_5.out).2.2 x6_1 p257 q257
             obtain rfl : ad255 = ad257 := (by injection e257)
             replace p257 := eq_true p257
             replace q257 := eq_true q257
             have p258 : 0 ≤ (x6_1 : Int) := of_decide_eq_true (by first | (with_reducible assumption) | assumption)
             have q258 : x6_1 < (t252.length : Int) := of_decide_eq_true (by first | (with_reducible assumption) | assumption)
             obtain ⟨ad258, e258, hx258_0⟩ := Kd.at_string (Kd.R_reads' HO_5.out).2.2 x6_1 p258 q258
             obtain rfl : ad255 = ad258 := (by injection e258)
             replace p258 := eq_true p258
             replace q258 := eq_true q258
             go_wp2_with (first | (go_at_call 48; (with_reducible refine (armadaref07_digits.calls k2 (rdOf ByteArray.empty t252 x6_1) true _ A36.out).mono ?_); rintro e w' ⟨rfl, ⟨nd, rfl⟩⟩; have p260 : 0 ≤ (x6_1 : Int) := of_decide_eq_true (by first | (with_reducible assumption) | assumption); have q260 : x6_1 < (t252.length : Int) := of_decide_eq_true (by first | (with_reducible assumption) | assumption); obtain ⟨ad260, e260, hx260_0⟩ := Kd.at_string (Kd.R_reads' HO_5.out).2.2 x6_1 p260 q260; obtain rfl : ad255 = ad260 := (by injection e260); replace p260 := eq_true p260; replace q260 := eq_true q260))
             go_roundg k2
             case measure => have := HK1.out; have := HK2.out; omega
             case rel => exact ⟨(wrap64 (x6_1 + 1)), (by first | rfl | (simp; done) | (simp [*]; done)), H', ⟨by have := HK1.out; have := HK2.out; omega⟩, ⟨by (with_reducible repeat (first | apply Kd.R_alloc | apply Kd.R_drewN | apply Kd.R_drew)); exact HO_5.out⟩, ⟨by repeat (first | (with_reducible first | exact HB.out | apply yA_ | apply yN_ | apply yD_) | exact HB.out)⟩⟩
           ·replace c37 := Bool.eq_false_iff.mpr c37
            subst c37
            have H1 : (armadaref07_identifiers.l0 k2 false t252 (wrap64 (x6_1 + 1))) = some r := by rw [if_neg (show ¬ (false = true) by decide)] at H; exact H
            clear H
            have H := H1
            clear H1
            have H' := Aside0.mk H
            clear H
            have p255 : 0 ≤ (x6_1 : Int) := of_decide_eq_true (by first | (with_reducible assumption) | assumption)
            have q255 : x6_1 < (t252.length : Int) := of_decide_eq_true (by first | (with_reducible assumption) | assumption)
            obtain ⟨ad255, e255, hx255_0⟩ := Kd.at_string (Kd.R_reads' HO_5.out).2.2 x6_1 p255 q255
            cases e255
            replace p255 := eq_true p255
            replace q255 := eq_true q255
            have p257 : 0 ≤ (x6_1 : Int) := of_decide_eq_true (by first | (with_reducible assumption) | assumption)
            have q257 : x6_1 < (t252.length : Int) := of_decide_eq_true (by first | (with_reducible assumption) | assumption)
            obtain ⟨ad257, e257, hx257_0⟩ := Kd.at_string (Kd.R_reads' HO_5.out).2.2 x6_1 p257 q257
            obtain rfl : ad255 = ad257 := (by injection e257)
            replace p257 := eq_true p257
            replace q257 := eq_true q257
            have p258 : 0 ≤ (x6_1 : Int) := of_decide_eq_true (by first | (with_reducible assumption) | assumption)
            have q258 : x6_1 < (t252.length : Int) := of_decide_eq_true (by first | (with_reducible assumption) | assumption)
            obtain ⟨ad258, e258, hx258_0⟩ := Kd.at_string (Kd.R_reads' HO_5.out).2.2 x6_1 p258 q258
            obtain rfl : ad255 = ad258 := (by injection e258)
            replace p258 := eq_true p258
            replace q258 := eq_true q258
            go_wp2_with (first | (go_at_call 48; (with_reducible refine (armadaref07_digits.calls k2 (rdOf ByteArray.empty t252 x6_1) false _ A36.out).mono ?_); rintro e w' ⟨rfl, ⟨nd, rfl⟩⟩))
            go_roundg k2
            case measure => have := HK1.out; have := HK2.out; omega
            case rel => exact ⟨(wrap64 (x6_1 + 1)), (by first | rfl | (simp; done) | (simp [*]; done)), H', ⟨by have := HK1.out; have := HK2.out; omega⟩, ⟨by (with_reducible repeat (first | apply Kd.R_alloc | apply Kd.R_drewN | apply Kd.R_drew)); exact HO_5.out⟩, ⟨by repeat (first | (with_reducible first | exact HB.out | apply yA_ | apply yN_ | apply yD_) | exact HB.out)⟩⟩
       ·rw [if_neg c8] at H
        exact absurd H (by simp)
      ·rw [if_neg c7] at H
       exact absurd H (by simp)
   ·rw [if_neg c5] at H
    have c5b0 : decide (x6_1 < (t252.length : Int)) = false := decide_eq_false c5
    clear c5
    obtain rfl := Option.some.inj H
    obtain ⟨Ao42, co42, eo42⟩ := Kd.R_slice HO_5.out
    subst eo42
    go_wp2
    go_ret
    exact ⟨by first | rfl | (simp [errW_none, errW_some] <;> rfl) | (simp [*, errW_none, errW_some] <;> rfl), by repeat (first | (with_reducible first | exact HB.out | apply yA_ | apply yN_ | apply yD_) | exact HB.out)⟩
def armadaref07_Check.j0 : Nat → Bool → Int → Int → Int → ByteArray → ByteArray → Option (Bool)
 | 0, _, _, _, _, _, _ => none
 | k + 1, x30, x263000, x263001, x263002, x263003, x263004 => if x30 = true then (some false) else (if x263003.toList = ([] : List UInt8) then (if x263004.toList = ([] : List UInt8) then (some true) else ((armadaref07_identifiers.f k x263004 true).bind fun t266 => (some t266))) else ((armadaref07_identifiers.f k x263003 false).bind fun t267 => (if t267 = true then (if x263004.toList = ([] : List UInt8) then (some true) else ((armadaref07_identifiers.f k x263004 true).bind fun t268 => (some t268))) else (some false))))
def armadaref07_Check.f (k : Nat) (a0_0 : Int) (a0_1 : Int) (a0_2 : Int) (a0_3 : ByteArray) (a0_4 : ByteArray) : Option (Bool) := (armadaref07_num.f a0_0).bind fun t263 => (if t263 = true then ((armadaref07_num.f a0_1).bind fun t264 => (if t264 = true then ((armadaref07_num.f a0_2).bind fun t265 => (if t265 = true then (if (a0_3.size : Int) > 30 then (armadaref07_Check.j0 k true a0_0 a0_1 a0_2 a0_3 a0_4) else (armadaref07_Check.j0 k (decide ((a0_4.size : Int) > 30)) a0_0 a0_1 a0_2 a0_3 a0_4)) else (armadaref07_Check.j0 k true a0_0 a0_1 a0_2 a0_3 a0_4))) else (armadaref07_Check.j0 k true a0_0 a0_1 a0_2 a0_3 a0_4))) else (armadaref07_Check.j0 k true a0_0 a0_1 a0_2 a0_3 a0_4))
theorem armadaref07_Check.mono_l : ∀ k, (∀ y0 y1 y2 y3 y4 y5, LeO (armadaref07_Check.j0 k y0 y1 y2 y3 y4 y5) (armadaref07_Check.j0 (k + 1) y0 y1 y2 y3 y4 y5))
 | 0 => fun _ _ _ _ _ _ r h => by simp [armadaref07_Check.j0] at h
 | k + 1 => by
  have ih0 := armadaref07_Check.mono_l k
  ·intro y0 y1 y2 y3 y4 y5
   unfold armadaref07_Check.j0
   repeat' first
   | (with_reducible exact ih0 _ _ _ _ _ _)
   | (with_reducible exact armadaref07_identifiers.mono _ _ _)
   | (with_reducible exact LeO.refl _)
   | (with_reducible exact LeO.none _)
   | (with_reducible refine LeO.ite ?_ ?_)
   | (with_reducible refine LeO.bind ?_ (fun _ => ?_))
   | exact ih0 _ _ _ _ _ _
   | exact armadaref07_identifiers.mono _ _ _
   | exact LeO.none _
   | refine LeO.ite ?_ ?_
   | refine LeO.bind ?_ (fun _ => ?_)
theorem armadaref07_Check.mono : ∀ a0 a1 a2 a3 a4 k, LeO (armadaref07_Check.f k a0 a1 a2 a3 a4) (armadaref07_Check.f (k + 1) a0 a1 a2 a3 a4) := by
 intro a0 a1 a2 a3 a4 k
 have ih0 := armadaref07_Check.mono_l k
 unfold armadaref07_Check.f
 repeat' first
   | (with_reducible exact ih0 _ _ _ _ _ _)
   | (with_reducible exact armadaref07_identifiers.mono _ _ _)
   | (with_reducible exact LeO.refl _)
   | (with_reducible exact LeO.none _)
   | (with_reducible refine LeO.ite ?_ ?_)
   | (with_reducible refine LeO.bind ?_ (fun _ => ?_))
   | exact ih0 _ _ _ _ _ _
   | exact armadaref07_identifiers.mono _ _ _
   | exact LeO.none _
   | refine LeO.ite ?_ ?_
   | refine LeO.bind ?_ (fun _ => ?_)
set_option maxHeartbeats 8000000 in
set_option maxRecDepth 100000 in
theorem armadaref07_Check.calls (k : Nat) (a0_0 : Int) (a0_1 : Int) (a0_2 : Int) (a0_3 : ByteArray) (a0_4 : ByteArray) (r : Bool) (w : World) (h : armadaref07_Check.f k a0_0 a0_1 a0_2 a0_3 a0_4 = some r) :
  Calls Tryd.prog 14 #[.agg #[.int .i64 a0_0, .int .i64 a0_1, .int .i64 a0_2, .string a0_3, .string a0_4]] w fun e w' => e = .returned (.bool r) ∧ Below w.heap.size w w' := by
 have hu23 := Tryd.underlying23
 have HB := Aside0.mk (Below.refl w.heap.size w)
 have H : ((armadaref07_num.f a0_0).bind fun t263 => (if t263 = true then ((armadaref07_num.f a0_1).bind fun t264 => (if t264 = true then ((armadaref07_num.f a0_2).bind fun t265 => (if t265 = true then (if (a0_3.size : Int) > 30 then (armadaref07_Check.j0 k true a0_0 a0_1 a0_2 a0_3 a0_4) else (armadaref07_Check.j0 k (decide ((a0_4.size : Int) > 30)) a0_0 a0_1 a0_2 a0_3 a0_4)) else (armadaref07_Check.j0 k true a0_0 a0_1 a0_2 a0_3 a0_4))) else (armadaref07_Check.j0 k true a0_0 a0_1 a0_2 a0_3 a0_4))) else (armadaref07_Check.j0 k true a0_0 a0_1 a0_2 a0_3 a0_4))) = some r := h
 clear h
 have HC2 := Aside0.mk H
 clear H
 go_enter Tryd.func14, Tryd.ntmps14
 go_upto_region 1 with (first | ((with_reducible refine gate_dst (N := 1) rfl ?_); (try (refine gate_guard (by rfl) ?_; dsimp only)); refine box_event ?hg (N := 1) ?hd (cs := #[.int .i64 a0_0, .int .i64 a0_1, .int .i64 a0_2, .string a0_3, .string a0_4]) (t := 23) ?hr ?_; (case hd => rfl); (case hg => rfl); (case hr => first | (go_simp; done) | (go_simp; rfl)); intro gb262 hg w3 hbox hb; have n0_ := Aside0.mk (below_step (by repeat (first | (with_reducible first | exact HB.out | apply yA_ | apply yN_ | apply yD_) | exact HB.out)) hb); have n1_ := Aside0.mk (hbox); have n2_ := Aside0.mk ((by rw [hg]; exact (below_size (by repeat (first | (with_reducible first | exact HB.out | apply yA_ | apply yN_ | apply yD_) | exact HB.out))) : w.heap.size ≤ gb262)); have n3_ := Aside0.mk ((by rw [hg]; exact (below_size (by repeat (first | (with_reducible first | exact HB.out | apply yA_ | apply yN_ | apply yD_) | exact HB.out))) : w.heap.size ≤ gb262)); clear HB; have HB := n0_; have BK262 := n1_; have GW262 := n2_; have GE262 := n3_; clear n0_ n1_ n2_ n3_; clear hb hbox hg))
 (try simp only [Act.put, List.setIfInBounds_toArray, List.set_cons_zero, List.set_cons_succ])
 go_cut [30] (fun v30 wc => ∃ (kq : Nat) (x30_1 : Bool), v30 = .bool x30_1 ∧ Aside0 (armadaref07_Check.j0 kq x30_1 a0_0 a0_1 a0_2 a0_3 a0_4 = some r) ∧ Aside0 (kq ≤ k) ∧ Aside0 (wc.heap[gb262]? = some (.cells #[.int .i64 a0_0, .int .i64 a0_1, .int .i64 a0_2, .string a0_3, .string a0_4] 23 (0, 0))) ∧ Aside0 (Below w.heap.size w wc))
 case first =>
  have H := HC2.out
  clear HC2
  replace H := Option.bind_eq_some_iff.mp H
  obtain ⟨t263, A40, H⟩ := H
  replace H : (if t263 = true then ((armadaref07_num.f a0_1).bind fun t264 => (if t264 = true then ((armadaref07_num.f a0_2).bind fun t265 => (if t265 = true then (if (a0_3.size : Int) > 30 then (armadaref07_Check.j0 k true a0_0 a0_1 a0_2 a0_3 a0_4) else (armadaref07_Check.j0 k (decide ((a0_4.size : Int) > 30)) a0_0 a0_1 a0_2 a0_3 a0_4)) else (armadaref07_Check.j0 k true a0_0 a0_1 a0_2 a0_3 a0_4))) else (armadaref07_Check.j0 k true a0_0 a0_1 a0_2 a0_3 a0_4))) else (armadaref07_Check.j0 k true a0_0 a0_1 a0_2 a0_3 a0_4)) = some r := H
  have A4 := Aside0.mk A40
  clear A40
  by_cases c5 : t263 = true
  ·subst c5
   have H1 : ((armadaref07_num.f a0_1).bind fun t264 => (if t264 = true then ((armadaref07_num.f a0_2).bind fun t265 => (if t265 = true then (if (a0_3.size : Int) > 30 then (armadaref07_Check.j0 k true a0_0 a0_1 a0_2 a0_3 a0_4) else (armadaref07_Check.j0 k (decide ((a0_4.size : Int) > 30)) a0_0 a0_1 a0_2 a0_3 a0_4)) else (armadaref07_Check.j0 k true a0_0 a0_1 a0_2 a0_3 a0_4))) else (armadaref07_Check.j0 k true a0_0 a0_1 a0_2 a0_3 a0_4))) = some r := by rw [if_pos rfl] at H; exact H
   clear H
   have H := H1
   clear H1
   replace H := Option.bind_eq_some_iff.mp H
   obtain ⟨t264, A60, H⟩ := H
   replace H : (if t264 = true then ((armadaref07_num.f a0_2).bind fun t265 => (if t265 = true then (if (a0_3.size : Int) > 30 then (armadaref07_Check.j0 k true a0_0 a0_1 a0_2 a0_3 a0_4) else (armadaref07_Check.j0 k (decide ((a0_4.size : Int) > 30)) a0_0 a0_1 a0_2 a0_3 a0_4)) else (armadaref07_Check.j0 k true a0_0 a0_1 a0_2 a0_3 a0_4))) else (armadaref07_Check.j0 k true a0_0 a0_1 a0_2 a0_3 a0_4)) = some r := H
   have A6 := Aside0.mk A60
   clear A60
   by_cases c7 : t264 = true
   ·subst c7
    have H1 : ((armadaref07_num.f a0_2).bind fun t265 => (if t265 = true then (if (a0_3.size : Int) > 30 then (armadaref07_Check.j0 k true a0_0 a0_1 a0_2 a0_3 a0_4) else (armadaref07_Check.j0 k (decide ((a0_4.size : Int) > 30)) a0_0 a0_1 a0_2 a0_3 a0_4)) else (armadaref07_Check.j0 k true a0_0 a0_1 a0_2 a0_3 a0_4))) = some r := by rw [if_pos rfl] at H; exact H
    clear H
    have H := H1
    clear H1
    replace H := Option.bind_eq_some_iff.mp H
    obtain ⟨t265, A80, H⟩ := H
    replace H : (if t265 = true then (if (a0_3.size : Int) > 30 then (armadaref07_Check.j0 k true a0_0 a0_1 a0_2 a0_3 a0_4) else (armadaref07_Check.j0 k (decide ((a0_4.size : Int) > 30)) a0_0 a0_1 a0_2 a0_3 a0_4)) else (armadaref07_Check.j0 k true a0_0 a0_1 a0_2 a0_3 a0_4)) = some r := H
    have A8 := Aside0.mk A80
    clear A80
    by_cases c9 : t265 = true
    ·subst c9
     have H1 : (if (a0_3.size : Int) > 30 then (armadaref07_Check.j0 k true a0_0 a0_1 a0_2 a0_3 a0_4) else (armadaref07_Check.j0 k (decide ((a0_4.size : Int) > 30)) a0_0 a0_1 a0_2 a0_3 a0_4)) = some r := by rw [if_pos rfl] at H; exact H
     clear H
     have H := H1
     clear H1
     by_cases c10 : (a0_3.size : Int) > 30
     ·rw [if_pos c10] at H
      have c10b0 : decide (30 < (a0_3.size : Int)) = true := decide_eq_true c10
      have c10b1 : decide (30 < a0_3.size) = true := decide_eq_true (by omega)
      clear c10
      (first | rw [c10b0] | (simp only [i64_w, i32_w]; rw [c10b0]) | skip)
      have H' := Aside0.mk H
      clear H
      have hcz11_0 : w3.cell? ⟨gb262, 0, none⟩ = some (.int .i64 a0_0) := (xC_ BK262.out 0).trans rfl
      have hcz11_1 : w3.cell? ⟨gb262, 1, none⟩ = some (.int .i64 a0_1) := (xC_ BK262.out 1).trans rfl
      have hcz11_2 : w3.cell? ⟨gb262, 2, none⟩ = some (.int .i64 a0_2) := (xC_ BK262.out 2).trans rfl
      have hcz11_3 : w3.cell? ⟨gb262, 3, none⟩ = some (.string a0_3) := (xC_ BK262.out 3).trans rfl
      have hcz11_4 : w3.cell? ⟨gb262, 4, none⟩ = some (.string a0_4) := (xC_ BK262.out 4).trans rfl
      have hfz11_0 := xF_ BK262.out 0
      have hfz11_1 := xF_ BK262.out 1
      have hfz11_2 := xF_ BK262.out 2
      have hfz11_3 := xF_ BK262.out 3
      have hfz11_4 := xF_ BK262.out 4
      go_wp2_with (first | ((with_reducible refine gate_callee (f := 34) rfl ?_); refine goesL_ (some 5) rfl rfl Tryd.func34 (by kernel_rfl) rfl #[.int .i64 a0_0] rfl (by (try simp only [List.map_toArray, List.map_cons, List.map_nil]); first | done | rfl) ?_; (with_reducible refine (armadaref07_num.calls a0_0 true _ A4.out).mono ?_); rintro e w' ⟨rfl, ⟨nd, rfl⟩⟩; refine ⟨_, rfl, ?_⟩) | (go_at_call 34; (with_reducible refine (armadaref07_num.calls a0_0 true _ A4.out).mono ?_); rintro e w' ⟨rfl, ⟨nd, rfl⟩⟩) | (go_at_call 34; (with_reducible refine (armadaref07_num.calls a0_1 true _ A6.out).mono ?_); rintro e w' ⟨rfl, ⟨nd, rfl⟩⟩) | (go_at_call 34; (with_reducible refine (armadaref07_num.calls a0_2 true _ A8.out).mono ?_); rintro e w' ⟨rfl, ⟨nd, rfl⟩⟩))
      go_meet
      case rel => exact ⟨_, (true), (by first | rfl | (simp; done) | (simp [*]; done)), H', ⟨by first | omega | exact Nat.le_refl _⟩, ⟨by (with_reducible repeat (first | apply xN_ | apply xD_ | apply xA_)); exact BK262.out⟩, ⟨by repeat (first | (with_reducible first | exact HB.out | apply yA_ | apply yN_ | apply yD_ | refine yS_ ?_ GE262.out) | exact HB.out)⟩⟩
     ·rw [if_neg c10] at H
      have c10b0 : decide (30 < (a0_3.size : Int)) = false := decide_eq_false c10
      have c10b1 : decide (30 < a0_3.size) = false := decide_eq_false (by omega)
      clear c10
      (first | rw [c10b0] | (simp only [i64_w, i32_w]; rw [c10b0]) | skip)
      have H' := Aside0.mk H
      clear H
      have hcz12_0 : w3.cell? ⟨gb262, 0, none⟩ = some (.int .i64 a0_0) := (xC_ BK262.out 0).trans rfl
      have hcz12_1 : w3.cell? ⟨gb262, 1, none⟩ = some (.int .i64 a0_1) := (xC_ BK262.out 1).trans rfl
      have hcz12_2 : w3.cell? ⟨gb262, 2, none⟩ = some (.int .i64 a0_2) := (xC_ BK262.out 2).trans rfl
      have hcz12_3 : w3.cell? ⟨gb262, 3, none⟩ = some (.string a0_3) := (xC_ BK262.out 3).trans rfl
      have hcz12_4 : w3.cell? ⟨gb262, 4, none⟩ = some (.string a0_4) := (xC_ BK262.out 4).trans rfl
      have hfz12_0 := xF_ BK262.out 0
      have hfz12_1 := xF_ BK262.out 1
      have hfz12_2 := xF_ BK262.out 2
      have hfz12_3 := xF_ BK262.out 3
      have hfz12_4 := xF_ BK262.out 4
      go_wp2_with (first | ((with_reducible refine gate_callee (f := 34) rfl ?_); refine goesL_ (some 5) rfl rfl Tryd.func34 (by kernel_rfl) rfl #[.int .i64 a0_0] rfl (by (try simp only [List.map_toArray, List.map_cons, List.map_nil]); first | done | rfl) ?_; (with_reducible refine (armadaref07_num.calls a0_0 true _ A4.out).mono ?_); rintro e w' ⟨rfl, ⟨nd, rfl⟩⟩; refine ⟨_, rfl, ?_⟩) | (go_at_call 34; (with_reducible refine (armadaref07_num.calls a0_0 true _ A4.out).mono ?_); rintro e w' ⟨rfl, ⟨nd, rfl⟩⟩) | (go_at_call 34; (with_reducible refine (armadaref07_num.calls a0_1 true _ A6.out).mono ?_); rintro e w' ⟨rfl, ⟨nd, rfl⟩⟩) | (go_at_call 34; (with_reducible refine (armadaref07_num.calls a0_2 true _ A8.out).mono ?_); rintro e w' ⟨rfl, ⟨nd, rfl⟩⟩))
      go_meet
      case rel => exact ⟨_, (decide ((a0_4.size : Int) > 30)), (by first | rfl | (simp; done) | (simp [*]; done)), H', ⟨by first | omega | exact Nat.le_refl _⟩, ⟨by (with_reducible repeat (first | apply xN_ | apply xD_ | apply xA_)); exact BK262.out⟩, ⟨by repeat (first | (with_reducible first | exact HB.out | apply yA_ | apply yN_ | apply yD_ | refine yS_ ?_ GE262.out) | exact HB.out)⟩⟩
    ·replace c9 := Bool.eq_false_iff.mpr c9
     subst c9
     have H1 : (armadaref07_Check.j0 k true a0_0 a0_1 a0_2 a0_3 a0_4) = some r := by rw [if_neg (show ¬ (false = true) by decide)] at H; exact H
     clear H
     have H := H1
     clear H1
     have H' := Aside0.mk H
     clear H
     have hcz13_0 : w3.cell? ⟨gb262, 0, none⟩ = some (.int .i64 a0_0) := (xC_ BK262.out 0).trans rfl
     have hcz13_1 : w3.cell? ⟨gb262, 1, none⟩ = some (.int .i64 a0_1) := (xC_ BK262.out 1).trans rfl
     have hcz13_2 : w3.cell? ⟨gb262, 2, none⟩ = some (.int .i64 a0_2) := (xC_ BK262.out 2).trans rfl
     have hcz13_3 : w3.cell? ⟨gb262, 3, none⟩ = some (.string a0_3) := (xC_ BK262.out 3).trans rfl
     have hcz13_4 : w3.cell? ⟨gb262, 4, none⟩ = some (.string a0_4) := (xC_ BK262.out 4).trans rfl
     have hfz13_0 := xF_ BK262.out 0
     have hfz13_1 := xF_ BK262.out 1
     have hfz13_2 := xF_ BK262.out 2
     have hfz13_3 := xF_ BK262.out 3
     have hfz13_4 := xF_ BK262.out 4
     go_wp2_with (first | ((with_reducible refine gate_callee (f := 34) rfl ?_); refine goesL_ (some 5) rfl rfl Tryd.func34 (by kernel_rfl) rfl #[.int .i64 a0_0] rfl (by (try simp only [List.map_toArray, List.map_cons, List.map_nil]); first | done | rfl) ?_; (with_reducible refine (armadaref07_num.calls a0_0 true _ A4.out).mono ?_); rintro e w' ⟨rfl, ⟨nd, rfl⟩⟩; refine ⟨_, rfl, ?_⟩) | (go_at_call 34; (with_reducible refine (armadaref07_num.calls a0_0 true _ A4.out).mono ?_); rintro e w' ⟨rfl, ⟨nd, rfl⟩⟩) | (go_at_call 34; (with_reducible refine (armadaref07_num.calls a0_1 true _ A6.out).mono ?_); rintro e w' ⟨rfl, ⟨nd, rfl⟩⟩) | (go_at_call 34; (with_reducible refine (armadaref07_num.calls a0_2 false _ A8.out).mono ?_); rintro e w' ⟨rfl, ⟨nd, rfl⟩⟩))
     go_meet
     case rel => exact ⟨_, (true), (by first | rfl | (simp; done) | (simp [*]; done)), H', ⟨by first | omega | exact Nat.le_refl _⟩, ⟨by (with_reducible repeat (first | apply xN_ | apply xD_ | apply xA_)); exact BK262.out⟩, ⟨by repeat (first | (with_reducible first | exact HB.out | apply yA_ | apply yN_ | apply yD_ | refine yS_ ?_ GE262.out) | exact HB.out)⟩⟩
   ·replace c7 := Bool.eq_false_iff.mpr c7
    subst c7
    have H1 : (armadaref07_Check.j0 k true a0_0 a0_1 a0_2 a0_3 a0_4) = some r := by rw [if_neg (show ¬ (false = true) by decide)] at H; exact H
    clear H
    have H := H1
    clear H1
    have H' := Aside0.mk H
    clear H
    have hcz14_0 : w3.cell? ⟨gb262, 0, none⟩ = some (.int .i64 a0_0) := (xC_ BK262.out 0).trans rfl
    have hcz14_1 : w3.cell? ⟨gb262, 1, none⟩ = some (.int .i64 a0_1) := (xC_ BK262.out 1).trans rfl
    have hcz14_2 : w3.cell? ⟨gb262, 2, none⟩ = some (.int .i64 a0_2) := (xC_ BK262.out 2).trans rfl
    have hcz14_3 : w3.cell? ⟨gb262, 3, none⟩ = some (.string a0_3) := (xC_ BK262.out 3).trans rfl
    have hcz14_4 : w3.cell? ⟨gb262, 4, none⟩ = some (.string a0_4) := (xC_ BK262.out 4).trans rfl
    have hfz14_0 := xF_ BK262.out 0
    have hfz14_1 := xF_ BK262.out 1
    have hfz14_2 := xF_ BK262.out 2
    have hfz14_3 := xF_ BK262.out 3
    have hfz14_4 := xF_ BK262.out 4
    go_wp2_with (first | ((with_reducible refine gate_callee (f := 34) rfl ?_); refine goesL_ (some 5) rfl rfl Tryd.func34 (by kernel_rfl) rfl #[.int .i64 a0_0] rfl (by (try simp only [List.map_toArray, List.map_cons, List.map_nil]); first | done | rfl) ?_; (with_reducible refine (armadaref07_num.calls a0_0 true _ A4.out).mono ?_); rintro e w' ⟨rfl, ⟨nd, rfl⟩⟩; refine ⟨_, rfl, ?_⟩) | (go_at_call 34; (with_reducible refine (armadaref07_num.calls a0_0 true _ A4.out).mono ?_); rintro e w' ⟨rfl, ⟨nd, rfl⟩⟩) | (go_at_call 34; (with_reducible refine (armadaref07_num.calls a0_1 false _ A6.out).mono ?_); rintro e w' ⟨rfl, ⟨nd, rfl⟩⟩))
    go_meet
    case rel => exact ⟨_, (true), (by first | rfl | (simp; done) | (simp [*]; done)), H', ⟨by first | omega | exact Nat.le_refl _⟩, ⟨by (with_reducible repeat (first | apply xN_ | apply xD_ | apply xA_)); exact BK262.out⟩, ⟨by repeat (first | (with_reducible first | exact HB.out | apply yA_ | apply yN_ | apply yD_ | refine yS_ ?_ GE262.out) | exact HB.out)⟩⟩
  ·replace c5 := Bool.eq_false_iff.mpr c5
   subst c5
   have H1 : (armadaref07_Check.j0 k true a0_0 a0_1 a0_2 a0_3 a0_4) = some r := by rw [if_neg (show ¬ (false = true) by decide)] at H; exact H
   clear H
   have H := H1
   clear H1
   have H' := Aside0.mk H
   clear H
   have hcz15_0 : w3.cell? ⟨gb262, 0, none⟩ = some (.int .i64 a0_0) := (xC_ BK262.out 0).trans rfl
   have hcz15_1 : w3.cell? ⟨gb262, 1, none⟩ = some (.int .i64 a0_1) := (xC_ BK262.out 1).trans rfl
   have hcz15_2 : w3.cell? ⟨gb262, 2, none⟩ = some (.int .i64 a0_2) := (xC_ BK262.out 2).trans rfl
   have hcz15_3 : w3.cell? ⟨gb262, 3, none⟩ = some (.string a0_3) := (xC_ BK262.out 3).trans rfl
   have hcz15_4 : w3.cell? ⟨gb262, 4, none⟩ = some (.string a0_4) := (xC_ BK262.out 4).trans rfl
   have hfz15_0 := xF_ BK262.out 0
   have hfz15_1 := xF_ BK262.out 1
   have hfz15_2 := xF_ BK262.out 2
   have hfz15_3 := xF_ BK262.out 3
   have hfz15_4 := xF_ BK262.out 4
   go_wp2_with (first | ((with_reducible refine gate_callee (f := 34) rfl ?_); refine goesL_ (some 5) rfl rfl Tryd.func34 (by kernel_rfl) rfl #[.int .i64 a0_0] rfl (by (try simp only [List.map_toArray, List.map_cons, List.map_nil]); first | done | rfl) ?_; (with_reducible refine (armadaref07_num.calls a0_0 false _ A4.out).mono ?_); rintro e w' ⟨rfl, ⟨nd, rfl⟩⟩; refine ⟨_, rfl, ?_⟩) | (go_at_call 34; (with_reducible refine (armadaref07_num.calls a0_0 false _ A4.out).mono ?_); rintro e w' ⟨rfl, ⟨nd, rfl⟩⟩))
   go_meet
   case rel => exact ⟨_, (true), (by first | rfl | (simp; done) | (simp [*]; done)), H', ⟨by first | omega | exact Nat.le_refl _⟩, ⟨by (with_reducible repeat (first | apply xN_ | apply xD_ | apply xA_)); exact BK262.out⟩, ⟨by repeat (first | (with_reducible first | exact HB.out | apply yA_ | apply yN_ | apply yD_ | refine yS_ ?_ GE262.out) | exact HB.out)⟩⟩
 case rest =>
  clear HC2
  (try clear c1); (try clear p2); (try clear c3); (try clear c5); (try clear c7); (try clear c9); (try clear c10); (try clear c10b0); (try clear c10b1); (try clear c14)
  (try clear hcz11_0); (try clear hcz11_1); (try clear hcz11_2); (try clear hcz11_3); (try clear hcz11_4); (try clear hcz12_0); (try clear hcz12_1); (try clear hcz12_2)
  (try clear hcz12_3); (try clear hcz12_4); (try clear hcz13_0); (try clear hcz13_1); (try clear hcz13_2); (try clear hcz13_3); (try clear hcz13_4); (try clear hcz14_0)
  (try clear hcz14_1); (try clear hcz14_2); (try clear hcz14_3); (try clear hcz14_4); (try clear hcz15_0); (try clear hcz15_1); (try clear hcz15_2); (try clear hcz15_3)
  (try clear hcz15_4); (try clear hfz11_0); (try clear hfz11_1); (try clear hfz11_2); (try clear hfz11_3); (try clear hfz11_4); (try clear hfz12_0); (try clear hfz12_1)
  (try clear hfz12_2); (try clear hfz12_3); (try clear hfz12_4); (try clear hfz13_0); (try clear hfz13_1); (try clear hfz13_2); (try clear hfz13_3); (try clear hfz13_4)
  (try clear hfz14_0); (try clear hfz14_1); (try clear hfz14_2); (try clear hfz14_3); (try clear hfz14_4); (try clear hfz15_0); (try clear hfz15_1); (try clear hfz15_2)
  (try clear hfz15_3); (try clear hfz15_4)
  obtain ⟨kq, x30_1, rfl, HA, HJ1, BK262, HB⟩ := hcut
  cases kq with
  | zero => exact absurd HA.out (by simp [armadaref07_Check.j0])
  | succ kj1 =>
   have H := HA.out
   clear HA
   simp only [armadaref07_Check.j0] at H
   by_cases c16 : x30_1 = true
   ·subst c16
    have H1 : (some false) = some r := by rw [if_pos rfl] at H; exact H
    clear H
    have H := H1
    clear H1
    obtain rfl := Option.some.inj H
    go_wp2
    go_ret
    exact ⟨by first | rfl | (simp [errW_none, errW_some] <;> rfl) | (simp [*, errW_none, errW_some] <;> rfl), by repeat (first | (with_reducible first | exact HB.out | apply yA_ | apply yN_ | apply yD_ | refine yS_ ?_ GE262.out) | exact HB.out)⟩
   ·replace c16 := Bool.eq_false_iff.mpr c16
    subst c16
    have H1 : (if a0_3.toList = ([] : List UInt8) then (if a0_4.toList = ([] : List UInt8) then (some true) else ((armadaref07_identifiers.f kj1 a0_4 true).bind fun t266 => (some t266))) else ((armadaref07_identifiers.f kj1 a0_3 false).bind fun t267 => (if t267 = true then (if a0_4.toList = ([] : List UInt8) then (some true) else ((armadaref07_identifiers.f kj1 a0_4 true).bind fun t268 => (some t268))) else (some false)))) = some r := by rw [if_neg (show ¬ (false = true) by decide)] at H; exact H
    clear H
    have H := H1
    clear H1
    by_cases c17 : a0_3.toList = ([] : List UInt8)
    ·rw [if_pos c17] at H
     have c17b0 : (a0_3.toList == ([] : List UInt8)) = true := beq_iff_eq.mpr c17
     have c17b1 : (a0_3.toList != ([] : List UInt8)) = false := bne_eq_false_iff_eq.mpr c17
     clear c17
     by_cases c18 : a0_4.toList = ([] : List UInt8)
     ·rw [if_pos c18] at H
      have c18b0 : (a0_4.toList == ([] : List UInt8)) = true := beq_iff_eq.mpr c18
      have c18b1 : (a0_4.toList != ([] : List UInt8)) = false := bne_eq_false_iff_eq.mpr c18
      clear c18
      obtain rfl := Option.some.inj H
      have hcz19_0 : wc.cell? ⟨gb262, 0, none⟩ = some (.int .i64 a0_0) := (xC_ BK262.out 0).trans rfl
      have hcz19_1 : wc.cell? ⟨gb262, 1, none⟩ = some (.int .i64 a0_1) := (xC_ BK262.out 1).trans rfl
      have hcz19_2 : wc.cell? ⟨gb262, 2, none⟩ = some (.int .i64 a0_2) := (xC_ BK262.out 2).trans rfl
      have hcz19_3 : wc.cell? ⟨gb262, 3, none⟩ = some (.string a0_3) := (xC_ BK262.out 3).trans rfl
      have hcz19_4 : wc.cell? ⟨gb262, 4, none⟩ = some (.string a0_4) := (xC_ BK262.out 4).trans rfl
      have hfz19_0 := xF_ BK262.out 0
      have hfz19_1 := xF_ BK262.out 1
      have hfz19_2 := xF_ BK262.out 2
      have hfz19_3 := xF_ BK262.out 3
      have hfz19_4 := xF_ BK262.out 4
      go_wp2
      go_ret
      exact ⟨by first | rfl | (simp [errW_none, errW_some] <;> rfl) | (simp [*, errW_none, errW_some] <;> rfl), by repeat (first | (with_reducible first | exact HB.out | apply yA_ | apply yN_ | apply yD_ | refine yS_ ?_ GE262.out) | exact HB.out)⟩
     ·rw [if_neg c18] at H
      have c18b0 : (a0_4.toList == ([] : List UInt8)) = false := beq_eq_false_iff_ne.mpr c18
      have c18b1 : (a0_4.toList != ([] : List UInt8)) = true := bne_iff_ne.mpr c18
      replace H := Option.bind_eq_some_iff.mp H
      obtain ⟨t266, A200, H⟩ := H
      replace H : (some t266) = some r := H
      have A20 := Aside0.mk A200
      clear A200
      obtain rfl := Option.some.inj H
      have hcz21_0 : wc.cell? ⟨gb262, 0, none⟩ = some (.int .i64 a0_0) := (xC_ BK262.out 0).trans rfl
      have hcz21_1 : wc.cell? ⟨gb262, 1, none⟩ = some (.int .i64 a0_1) := (xC_ BK262.out 1).trans rfl
      have hcz21_2 : wc.cell? ⟨gb262, 2, none⟩ = some (.int .i64 a0_2) := (xC_ BK262.out 2).trans rfl
      have hcz21_3 : wc.cell? ⟨gb262, 3, none⟩ = some (.string a0_3) := (xC_ BK262.out 3).trans rfl
      have hcz21_4 : wc.cell? ⟨gb262, 4, none⟩ = some (.string a0_4) := (xC_ BK262.out 4).trans rfl
      have hfz21_0 := xF_ BK262.out 0
      have hfz21_1 := xF_ BK262.out 1
      have hfz21_2 := xF_ BK262.out 2
      have hfz21_3 := xF_ BK262.out 3
      have hfz21_4 := xF_ BK262.out 4
      go_wp2_with (first | (go_at_call 35; (with_reducible refine (armadaref07_identifiers.calls kj1 a0_4 true t266 _ A20.out).mono ?_); rintro e w22 ⟨rfl, hb⟩; have n0_ := Aside0.mk (blk_below (g := gb262) (o := .cells #[.int .i64 a0_0, .int .i64 a0_1, .int .i64 a0_2, .string a0_3, .string a0_4] 23 (0, 0)) (by (with_reducible repeat (first | apply xN_ | apply xD_ | apply xA_)); exact BK262.out) hb); have n1_ := Aside0.mk (below_step (by repeat (first | (with_reducible first | exact HB.out | apply yA_ | apply yN_ | apply yD_ | refine yS_ ?_ GE262.out) | exact HB.out)) hb); clear BK262; clear HB; have BK262 := n0_; have HB := n1_; clear n0_ n1_; (try clear hb); (try clear hb2); (try clear hk); (try clear hi)))
      go_ret
      exact ⟨by first | rfl | (simp [errW_none, errW_some] <;> rfl) | (simp [*, errW_none, errW_some] <;> rfl), by repeat (first | (with_reducible first | exact HB.out | apply yA_ | apply yN_ | apply yD_ | refine yS_ ?_ GE262.out) | exact HB.out)⟩
    ·rw [if_neg c17] at H
     have c17b0 : (a0_3.toList == ([] : List UInt8)) = false := beq_eq_false_iff_ne.mpr c17
     have c17b1 : (a0_3.toList != ([] : List UInt8)) = true := bne_iff_ne.mpr c17
     replace H := Option.bind_eq_some_iff.mp H
     obtain ⟨t267, A230, H⟩ := H
     replace H : (if t267 = true then (if a0_4.toList = ([] : List UInt8) then (some true) else ((armadaref07_identifiers.f kj1 a0_4 true).bind fun t268 => (some t268))) else (some false)) = some r := H
     have A23 := Aside0.mk A230
     clear A230
     by_cases c24 : t267 = true
     ·subst c24
      have H1 : (if a0_4.toList = ([] : List UInt8) then (some true) else ((armadaref07_identifiers.f kj1 a0_4 true).bind fun t268 => (some t268))) = some r := by rw [if_pos rfl] at H; exact H
      clear H
      have H := H1
      clear H1
      by_cases c25 : a0_4.toList = ([] : List UInt8)
      ·rw [if_pos c25] at H
       have c25b0 : (a0_4.toList == ([] : List UInt8)) = true := beq_iff_eq.mpr c25
       have c25b1 : (a0_4.toList != ([] : List UInt8)) = false := bne_eq_false_iff_eq.mpr c25
       clear c25
       obtain rfl := Option.some.inj H
       have hcz26_0 : wc.cell? ⟨gb262, 0, none⟩ = some (.int .i64 a0_0) := (xC_ BK262.out 0).trans rfl
       have hcz26_1 : wc.cell? ⟨gb262, 1, none⟩ = some (.int .i64 a0_1) := (xC_ BK262.out 1).trans rfl
       have hcz26_2 : wc.cell? ⟨gb262, 2, none⟩ = some (.int .i64 a0_2) := (xC_ BK262.out 2).trans rfl
       have hcz26_3 : wc.cell? ⟨gb262, 3, none⟩ = some (.string a0_3) := (xC_ BK262.out 3).trans rfl
       have hcz26_4 : wc.cell? ⟨gb262, 4, none⟩ = some (.string a0_4) := (xC_ BK262.out 4).trans rfl
       have hfz26_0 := xF_ BK262.out 0
       have hfz26_1 := xF_ BK262.out 1
       have hfz26_2 := xF_ BK262.out 2
       have hfz26_3 := xF_ BK262.out 3
       have hfz26_4 := xF_ BK262.out 4
       go_wp2_with (first | (go_at_call 35; (with_reducible refine (armadaref07_identifiers.calls kj1 a0_3 false true _ A23.out).mono ?_); rintro e w27 ⟨rfl, hb⟩; have n0_ := Aside0.mk (blk_below (g := gb262) (o := .cells #[.int .i64 a0_0, .int .i64 a0_1, .int .i64 a0_2, .string a0_3, .string a0_4] 23 (0, 0)) (by (with_reducible repeat (first | apply xN_ | apply xD_ | apply xA_)); exact BK262.out) hb); have n1_ := Aside0.mk (below_step (by repeat (first | (with_reducible first | exact HB.out | apply yA_ | apply yN_ | apply yD_ | refine yS_ ?_ GE262.out) | exact HB.out)) hb); clear BK262; clear HB; have BK262 := n0_; have HB := n1_; clear n0_ n1_; (try clear hb); (try clear hb2); (try clear hk); (try clear hi); have hcz28_0 : w27.cell? ⟨gb262, 0, none⟩ = some (.int .i64 a0_0) := (xC_ BK262.out 0).trans rfl; have hcz28_1 : w27.cell? ⟨gb262, 1, none⟩ = some (.int .i64 a0_1) := (xC_ BK262.out 1).trans rfl; have hcz28_2 : w27.cell? ⟨gb262, 2, none⟩ = some (.int .i64 a0_2) := (xC_ BK262.out 2).trans rfl; have hcz28_3 : w27.cell? ⟨gb262, 3, none⟩ = some (.string a0_3) := (xC_ BK262.out 3).trans rfl; have hcz28_4 : w27.cell? ⟨gb262, 4, none⟩ = some (.string a0_4) := (xC_ BK262.out 4).trans rfl; have hfz28_0 := xF_ BK262.out 0; have hfz28_1 := xF_ BK262.out 1; have hfz28_2 := xF_ BK262.out 2; have hfz28_3 := xF_ BK262.out 3; have hfz28_4 := xF_ BK262.out 4))
       go_ret
       exact ⟨by first | rfl | (simp [errW_none, errW_some] <;> rfl) | (simp [*, errW_none, errW_some] <;> rfl), by repeat (first | (with_reducible first | exact HB.out | apply yA_ | apply yN_ | apply yD_ | refine yS_ ?_ GE262.out) | exact HB.out)⟩
      ·rw [if_neg c25] at H
       have c25b0 : (a0_4.toList == ([] : List UInt8)) = false := beq_eq_false_iff_ne.mpr c25
       have c25b1 : (a0_4.toList != ([] : List UInt8)) = true := bne_iff_ne.mpr c25
       replace H := Option.bind_eq_some_iff.mp H
       obtain ⟨t268, A290, H⟩ := H
       replace H : (some t268) = some r := H
       have A29 := Aside0.mk A290
       clear A290
       obtain rfl := Option.some.inj H
       have hcz30_0 : wc.cell? ⟨gb262, 0, none⟩ = some (.int .i64 a0_0) := (xC_ BK262.out 0).trans rfl
       have hcz30_1 : wc.cell? ⟨gb262, 1, none⟩ = some (.int .i64 a0_1) := (xC_ BK262.out 1).trans rfl
       have hcz30_2 : wc.cell? ⟨gb262, 2, none⟩ = some (.int .i64 a0_2) := (xC_ BK262.out 2).trans rfl
       have hcz30_3 : wc.cell? ⟨gb262, 3, none⟩ = some (.string a0_3) := (xC_ BK262.out 3).trans rfl
       have hcz30_4 : wc.cell? ⟨gb262, 4, none⟩ = some (.string a0_4) := (xC_ BK262.out 4).trans rfl
       have hfz30_0 := xF_ BK262.out 0
       have hfz30_1 := xF_ BK262.out 1
       have hfz30_2 := xF_ BK262.out 2
       have hfz30_3 := xF_ BK262.out 3
       have hfz30_4 := xF_ BK262.out 4
       go_wp2_with (first | (go_at_call 35; (with_reducible refine (armadaref07_identifiers.calls kj1 a0_3 false true _ A23.out).mono ?_); rintro e w31 ⟨rfl, hb⟩; have n0_ := Aside0.mk (blk_below (g := gb262) (o := .cells #[.int .i64 a0_0, .int .i64 a0_1, .int .i64 a0_2, .string a0_3, .string a0_4] 23 (0, 0)) (by (with_reducible repeat (first | apply xN_ | apply xD_ | apply xA_)); exact BK262.out) hb); have n1_ := Aside0.mk (below_step (by repeat (first | (with_reducible first | exact HB.out | apply yA_ | apply yN_ | apply yD_ | refine yS_ ?_ GE262.out) | exact HB.out)) hb); clear BK262; clear HB; have BK262 := n0_; have HB := n1_; clear n0_ n1_; (try clear hb); (try clear hb2); (try clear hk); (try clear hi); have hcz32_0 : w31.cell? ⟨gb262, 0, none⟩ = some (.int .i64 a0_0) := (xC_ BK262.out 0).trans rfl; have hcz32_1 : w31.cell? ⟨gb262, 1, none⟩ = some (.int .i64 a0_1) := (xC_ BK262.out 1).trans rfl; have hcz32_2 : w31.cell? ⟨gb262, 2, none⟩ = some (.int .i64 a0_2) := (xC_ BK262.out 2).trans rfl; have hcz32_3 : w31.cell? ⟨gb262, 3, none⟩ = some (.string a0_3) := (xC_ BK262.out 3).trans rfl; have hcz32_4 : w31.cell? ⟨gb262, 4, none⟩ = some (.string a0_4) := (xC_ BK262.out 4).trans rfl; have hfz32_0 := xF_ BK262.out 0; have hfz32_1 := xF_ BK262.out 1; have hfz32_2 := xF_ BK262.out 2; have hfz32_3 := xF_ BK262.out 3; have hfz32_4 := xF_ BK262.out 4) | (go_at_call 35; (with_reducible refine (armadaref07_identifiers.calls kj1 a0_4 true t268 _ A29.out).mono ?_); rintro e w33 ⟨rfl, hb⟩; have n0_ := Aside0.mk (blk_below (g := gb262) (o := .cells #[.int .i64 a0_0, .int .i64 a0_1, .int .i64 a0_2, .string a0_3, .string a0_4] 23 (0, 0)) (by (with_reducible repeat (first | apply xN_ | apply xD_ | apply xA_)); exact BK262.out) hb); have n1_ := Aside0.mk (below_step (by repeat (first | (with_reducible first | exact HB.out | apply yA_ | apply yN_ | apply yD_ | refine yS_ ?_ GE262.out) | exact HB.out)) hb); clear BK262; clear HB; have BK262 := n0_; have HB := n1_; clear n0_ n1_; (try clear hb); (try clear hb2); (try clear hk); (try clear hi)))
       go_ret
       exact ⟨by first | rfl | (simp [errW_none, errW_some] <;> rfl) | (simp [*, errW_none, errW_some] <;> rfl), by repeat (first | (with_reducible first | exact HB.out | apply yA_ | apply yN_ | apply yD_ | refine yS_ ?_ GE262.out) | exact HB.out)⟩
     ·replace c24 := Bool.eq_false_iff.mpr c24
      subst c24
      have H1 : (some false) = some r := by rw [if_neg (show ¬ (false = true) by decide)] at H; exact H
      clear H
      have H := H1
      clear H1
      obtain rfl := Option.some.inj H
      have hcz34_0 : wc.cell? ⟨gb262, 0, none⟩ = some (.int .i64 a0_0) := (xC_ BK262.out 0).trans rfl
      have hcz34_1 : wc.cell? ⟨gb262, 1, none⟩ = some (.int .i64 a0_1) := (xC_ BK262.out 1).trans rfl
      have hcz34_2 : wc.cell? ⟨gb262, 2, none⟩ = some (.int .i64 a0_2) := (xC_ BK262.out 2).trans rfl
      have hcz34_3 : wc.cell? ⟨gb262, 3, none⟩ = some (.string a0_3) := (xC_ BK262.out 3).trans rfl
      have hcz34_4 : wc.cell? ⟨gb262, 4, none⟩ = some (.string a0_4) := (xC_ BK262.out 4).trans rfl
      have hfz34_0 := xF_ BK262.out 0
      have hfz34_1 := xF_ BK262.out 1
      have hfz34_2 := xF_ BK262.out 2
      have hfz34_3 := xF_ BK262.out 3
      have hfz34_4 := xF_ BK262.out 4
      go_wp2_with (first | (go_at_call 35; (with_reducible refine (armadaref07_identifiers.calls kj1 a0_3 false false _ A23.out).mono ?_); rintro e w35 ⟨rfl, hb⟩; have n0_ := Aside0.mk (blk_below (g := gb262) (o := .cells #[.int .i64 a0_0, .int .i64 a0_1, .int .i64 a0_2, .string a0_3, .string a0_4] 23 (0, 0)) (by (with_reducible repeat (first | apply xN_ | apply xD_ | apply xA_)); exact BK262.out) hb); have n1_ := Aside0.mk (below_step (by repeat (first | (with_reducible first | exact HB.out | apply yA_ | apply yN_ | apply yD_ | refine yS_ ?_ GE262.out) | exact HB.out)) hb); clear BK262; clear HB; have BK262 := n0_; have HB := n1_; clear n0_ n1_; (try clear hb); (try clear hb2); (try clear hk); (try clear hi)))
      go_ret
      exact ⟨by first | rfl | (simp [errW_none, errW_some] <;> rfl) | (simp [*, errW_none, errW_some] <;> rfl), by repeat (first | (with_reducible first | exact HB.out | apply yA_ | apply yN_ | apply yD_ | refine yS_ ?_ GE262.out) | exact HB.out)⟩
def armadaref07_order.f (a0 : Int) (a1 : Int) : Option (Int) := if a0 < a1 then (some (-1)) else (if a0 > a1 then (some 1) else (some 0))
set_option maxHeartbeats 8000000 in
set_option maxRecDepth 100000 in
theorem armadaref07_order.calls (a0 : Int) (a1 : Int) (r : Int) (w : World) (h : armadaref07_order.f a0 a1 = some r) :
  Calls Tryd.prog 41 #[.int .i64 a0, .int .i64 a1] w fun e w' => e = .returned (.int .i64 r) ∧ Drawn0 w w' := by
 have H : (if a0 < a1 then (some (-1)) else (if a0 > a1 then (some 1) else (some 0))) = some r := h
 clear h
 by_cases c3 : a0 < a1
 ·rw [if_pos c3] at H
  have c3b0 : decide (a0 < a1) = true := decide_eq_true c3
  clear c3
  obtain rfl := Option.some.inj H
  go_enter Tryd.func41, Tryd.ntmps41
  go_wp2
  go_ret
  exact ⟨by first | rfl | (simp; done) | (simp [*]; done), by repeat (first | exact Drawn0.refl _ | apply Drawn0.step)⟩
 ·rw [if_neg c3] at H
  have c3b0 : decide (a0 < a1) = false := decide_eq_false c3
  clear c3
  by_cases c4 : a0 > a1
  ·rw [if_pos c4] at H
   have c4b0 : decide (a1 < a0) = true := decide_eq_true c4
   clear c4
   obtain rfl := Option.some.inj H
   go_enter Tryd.func41, Tryd.ntmps41
   go_wp2
   go_ret
   exact ⟨by first | rfl | (simp; done) | (simp [*]; done), by repeat (first | exact Drawn0.refl _ | apply Drawn0.step)⟩
  ·rw [if_neg c4] at H
   have c4b0 : decide (a1 < a0) = false := decide_eq_false c4
   clear c4
   obtain rfl := Option.some.inj H
   go_enter Tryd.func41, Tryd.ntmps41
   go_wp2
   go_ret
   exact ⟨by first | rfl | (simp; done) | (simp [*]; done), by repeat (first | exact Drawn0.refl _ | apply Drawn0.step)⟩
def armadaref07_one.f (a0 : Bool) : Option (Int) := if a0 = true then (some 1) else (some 0)
set_option maxHeartbeats 8000000 in
set_option maxRecDepth 100000 in
theorem armadaref07_one.calls (a0 : Bool) (r : Int) (w : World) (h : armadaref07_one.f a0 = some r) :
  Calls Tryd.prog 56 #[.bool a0] w fun e w' => e = .returned (.int .i64 r) ∧ Drawn0 w w' := by
 have H : (if a0 = true then (some 1) else (some 0)) = some r := h
 clear h
 by_cases c2 : a0 = true
 ·subst c2
  have H1 : (some 1) = some r := by rw [if_pos rfl] at H; exact H
  clear H
  have H := H1
  clear H1
  obtain rfl := Option.some.inj H
  go_enter Tryd.func56, Tryd.ntmps56
  go_wp2
  go_ret
  exact ⟨by first | rfl | (simp; done) | (simp [*]; done), by repeat (first | exact Drawn0.refl _ | apply Drawn0.step)⟩
 ·replace c2 := Bool.eq_false_iff.mpr c2
  subst c2
  have H1 : (some 0) = some r := by rw [if_neg (show ¬ (false = true) by decide)] at H; exact H
  clear H
  have H := H1
  clear H1
  obtain rfl := Option.some.inj H
  go_enter Tryd.func56, Tryd.ntmps56
  go_wp2
  go_ret
  exact ⟨by first | rfl | (simp; done) | (simp [*]; done), by repeat (first | exact Drawn0.refl _ | apply Drawn0.step)⟩
end Go.Proofs.YthoiepkejhhcoaaDoor.P
