/- Printed functions, merged. -/
import Derived.Test.YtnhhbmekjoanbaaDoorProg
import Derived.Below
import Derived.Deep.Draws
import Derived.Deep.AppendLies
import Derived.Maps.AppendAt
import Derived.OwnWalk
import Derived.Laws.BytesArg
import Derived.Laws.MakeOwn
import Derived.Laws.OwnMore
import Derived.Deep.OwnRows
import Derived.Tactics
import Derived.Lib.ConvBytes
import Derived.Laws.Slices
import Derived.WalkKit
import Derived.KernelRfl
import Derived.RowKit3
import Derived.Deep.LoopGhost
import Derived.Deep.QuietTactic
import Derived.BigQuiet
import Derived.WideLaws
import Derived.Deep.DeepCutAuto
import Derived.Deep.CutBlock
import Derived.Deep.RegionHeld3
import Derived.Laws.Rows
import Derived.Lib.AppendStr
import Derived.ArgAppend
import Derived.Laws.IdiomCopy
import Derived.OrdersHeld
import Derived.Laws.BitsLemmas
import Derived.RowKit
import Derived.Test.YtnhhbmekjoanbaaDoorZFCWWords
import Derived.Test.YtnhhbmekjoanbaaDoorZFCWLast
import Derived.Test.YtnhhbmekjoanbaaDoorZFCWTab
import Derived.Test.YtnhhbmekjoanbaaDoorZFCWApart
import Derived.Test.YtnhhbmekjoanbaaDoorZFCWFoot
import Derived.Test.YtnhhbmekjoanbaaDoorZFCWKept
import Derived.Test.YtnhhbmekjoanbaaDoorZFCWShare
import Derived.Test.YtnhhbmekjoanbaaDoorZFCWN
import Derived.Test.YtnhhbmekjoanbaaDoorZFCWEqStruct
import Derived.Test.YtnhhbmekjoanbaaDoorZFCWRepsOne
import Derived.Test.YtnhhbmekjoanbaaDoorZFCWInv
import Derived.Test.YtnhhbmekjoanbaaDoorZFCWGuard
import Derived.Test.YtnhhbmekjoanbaaDoorZFCWMore
import Derived.Test.YtnhhbmekjoanbaaDoorZFCAl
namespace Go.Proofs.YtnhhbmekjoanbaaDoor.P
open Go.RowKit Go.Proofs.YtnhhbmekjoanbaaDoorW.PrintWords Go.Proofs.YtnhhbmekjoanbaaDoorW.PrintLast Go.Proofs.YtnhhbmekjoanbaaDoorW.PrintMore
attribute [local go_sem] max2_int min2_int max_two min_two max_three min_three max_four min_four   -- for this text's walks alone
set_option linter.unusedVariables false
set_option linter.unusedSimpArgs false
def errW : Option Int → Value
 | none => .nilIface
 | some c => .iface 0 (.int .i64 c)
theorem errW_none : errW none = .nilIface := rfl
theorem errW_some (c : Int) : errW (some c) = .iface 0 (.int .i64 c) := rfl
theorem info9 : (Tryd.prog.info? 9).map (fun i => (i.zero, i.size, i.bytes)) = some (some (.string ⟨#[]⟩), 1, 16) := by kernel_rfl
theorem info45 : (Tryd.prog.info? 45).map (fun i => (i.zero, i.size, i.bytes)) = some (some (.agg #[(.bool false), (.string ⟨#[]⟩), (.string ⟨#[]⟩)]), 3, 40) := by kernel_rfl
theorem info49 : (Tryd.prog.info? 49).map (fun i => (i.zero, i.size, i.bytes)) = some (some (.agg #[(.string ⟨#[]⟩), (.string ⟨#[]⟩)]), 2, 32) := by kernel_rfl
structure S49 where
 f0 : ByteArray
 f1 : ByteArray
def z49 : S49 := ⟨(⟨#[]⟩ : ByteArray), (⟨#[]⟩ : ByteArray)⟩
def k49 : Kd S49 := Kd.iso (Kd.pair Kd.string Kd.string) (fun x : S49 => (x.f0, x.f1))
theorem k49_open {w : World} {x : S49} {cs : List Value} (h : k49.K w x cs) : cs = [.string x.f0, .string x.f1] := by
 obtain ⟨_, _, rfl, rfl, rfl⟩ := h
 exact rfl
theorem k49_openM {w : World} {base : Nat} {ok : Nat → Prop} {x : S49} {cs : List Value} (h : k49.M w base ok x cs) : cs = [.string x.f0, .string x.f1] := by
 obtain ⟨_, _, rfl, rfl, rfl⟩ := h
 exact rfl
theorem k49_mk (w : World) (x : S49)  : k49.K w x [.string x.f0, .string x.f1] := ⟨[.string x.f0], [.string x.f1], rfl, rfl, rfl⟩
theorem k49_mkM (w : World) (base : Nat) (ok : Nat → Prop) (x : S49)  : k49.M w base ok x [.string x.f0, .string x.f1] := ⟨[.string x.f0], [.string x.f1], rfl, rfl, rfl⟩
def rd_T49 (xs : List S49) (i : Int) : S49 := xs.getD i.toNat z49
theorem at_T49 {w : World} {A : Option Addr} {n : Nat} {xs : List S49} (h : Kd.C k49 w A n xs) (i : Int) (h0 : 0 ≤ i) (h1 : i < n) : ∃ ad , A = some ad ∧ w.cell? (ad.add (i.toNat * 2)) = some (.string (rd_T49 xs i).f0) ∧ w.cell? ⟨(ad.add (i.toNat * 2)).block, (ad.add (i.toNat * 2)).off + 1, none⟩ = some (.string (rd_T49 xs i).f1) := by
 obtain ⟨ad, c, e, _, hK, hc0⟩ := Kd.C_get h z49 i h0 h1
 have hc : ∀ j u, c[j]? = some u → w.cell? (ad.add (i.toNat * 2 + j)) = some u := hc0
 obtain rfl := k49_open hK
 exact ⟨ad, e, hc 0 _ rfl, by rw [← add_field _ _ 1 (by omega)]; exact hc 1 _ rfl⟩
structure S45 where
 f0 : Bool
 f1 : ByteArray
 f2 : ByteArray
def z45 : S45 := ⟨false, (⟨#[]⟩ : ByteArray), (⟨#[]⟩ : ByteArray)⟩
def k45 : Kd S45 := Kd.iso (Kd.pair Kd.bool (Kd.pair Kd.string Kd.string)) (fun x : S45 => (x.f0, x.f1, x.f2))
theorem k45_open {w : World} {x : S45} {cs : List Value} (h : k45.K w x cs) : cs = [.bool x.f0, .string x.f1, .string x.f2] := by
 obtain ⟨_, _, rfl, rfl, ⟨_, _, rfl, rfl, rfl⟩⟩ := h
 exact rfl
theorem k45_openM {w : World} {base : Nat} {ok : Nat → Prop} {x : S45} {cs : List Value} (h : k45.M w base ok x cs) : cs = [.bool x.f0, .string x.f1, .string x.f2] := by
 obtain ⟨_, _, rfl, rfl, ⟨_, _, rfl, rfl, rfl⟩⟩ := h
 exact rfl
theorem k45_mk (w : World) (x : S45)  : k45.K w x [.bool x.f0, .string x.f1, .string x.f2] := ⟨[.bool x.f0], [.string x.f1, .string x.f2], rfl, rfl, ⟨[.string x.f1], [.string x.f2], rfl, rfl, rfl⟩⟩
theorem k45_mkM (w : World) (base : Nat) (ok : Nat → Prop) (x : S45)  : k45.M w base ok x [.bool x.f0, .string x.f1, .string x.f2] := ⟨[.bool x.f0], [.string x.f1, .string x.f2], rfl, rfl, ⟨[.string x.f1], [.string x.f2], rfl, rfl, rfl⟩⟩
def rd_T45 (xs : List S45) (i : Int) : S45 := xs.getD i.toNat z45
theorem at_T45 {w : World} {A : Option Addr} {n : Nat} {xs : List S45} (h : Kd.C k45 w A n xs) (i : Int) (h0 : 0 ≤ i) (h1 : i < n) : ∃ ad , A = some ad ∧ w.cell? (ad.add (i.toNat * 3)) = some (.bool (rd_T45 xs i).f0) ∧ w.cell? ⟨(ad.add (i.toNat * 3)).block, (ad.add (i.toNat * 3)).off + 1, none⟩ = some (.string (rd_T45 xs i).f1) ∧ w.cell? ⟨(ad.add (i.toNat * 3)).block, (ad.add (i.toNat * 3)).off + 2, none⟩ = some (.string (rd_T45 xs i).f2) := by
 obtain ⟨ad, c, e, _, hK, hc0⟩ := Kd.C_get h z45 i h0 h1
 have hc : ∀ j u, c[j]? = some u → w.cell? (ad.add (i.toNat * 3 + j)) = some u := hc0
 obtain rfl := k45_open hK
 exact ⟨ad, e, hc 0 _ rfl, by rw [← add_field _ _ 1 (by omega)]; exact hc 1 _ rfl, by rw [← add_field _ _ 2 (by omega)]; exact hc 2 _ rfl⟩
theorem eqA45 (d : Nat) (w : World) (x0 y0 : Bool) (x1 y1 : ByteArray) (x2 y2 : ByteArray) :
  (Op.equalIn (d + 2) 45 (.agg #[.bool x0, .string x1, .string x2]) (.agg #[.bool y0, .string y1, .string y2])).run Tryd.prog w = .ok (x0 == y0 && (x1.toList == y1.toList && (x2.toList == y2.toList))) w := by
 refine eqA_of Tryd.underlying45 (by kernel_rfl) ?_
 refine eqf_cons (by rfl) (by go_simp; rfl) (by go_simp; rfl) (by go_simp) ?_
 refine eqf_cons (by rfl) (by go_simp; rfl) (by go_simp; rfl) (by go_simp) ?_
 exact eqf_last (by rfl) (by go_simp; rfl) (by go_simp; rfl) (by go_simp)
theorem eqA49 (d : Nat) (w : World) (x0 y0 : ByteArray) (x1 y1 : ByteArray) :
  (Op.equalIn (d + 2) 49 (.agg #[.string x0, .string x1]) (.agg #[.string y0, .string y1])).run Tryd.prog w = .ok (x0.toList == y0.toList && (x1.toList == y1.toList)) w := by
 refine eqA_of Tryd.underlying49 (by kernel_rfl) ?_
 refine eqf_cons (by rfl) (by go_simp; rfl) (by go_simp; rfl) (by go_simp) ?_
 exact eqf_last (by rfl) (by go_simp; rfl) (by go_simp; rfl) (by go_simp)
def armadaref05_Small.l0 : Nat → List (S49) → Int → Option (Bool)
 | 0, _, _ => none
 | k + 1, x0, x3 => if x3 < (x0.length : Int) then (if 0 ≤ x3 then (if (((rd_T49 x0 x3).f0).size : Int) > 200 then (some false) else (if (((rd_T49 x0 x3).f1).size : Int) > 5000 then (some false) else (armadaref05_Small.l0 k x0 (wrap64 (x3 + 1))))) else (none)) else (some (decide ((x0.length : Int) ≤ 60)))
def armadaref05_Small.f (k : Nat) (l0 : List (S49)) : Option (Bool) := armadaref05_Small.l0 k l0 0
theorem armadaref05_Small.mono_l : ∀ k, (∀ y0 y1, LeO (armadaref05_Small.l0 k y0 y1) (armadaref05_Small.l0 (k + 1) y0 y1))
 | 0 => fun _ _ r h => by simp [armadaref05_Small.l0] at h
 | k + 1 => by
  have ih0 := armadaref05_Small.mono_l k
  ·intro y0 y1
   unfold armadaref05_Small.l0
   repeat' first
   | (with_reducible exact ih0 _ _)
   | (with_reducible exact LeO.refl _)
   | (with_reducible exact LeO.none _)
   | (with_reducible refine LeO.ite ?_ ?_)
   | (with_reducible refine LeO.bind ?_ (fun _ => ?_))
   | exact ih0 _ _
   | exact LeO.none _
   | refine LeO.ite ?_ ?_
   | refine LeO.bind ?_ (fun _ => ?_)
theorem armadaref05_Small.mono : ∀ a0 k, LeO (armadaref05_Small.f k a0) (armadaref05_Small.f (k + 1) a0) := by
 intro a0 k
 have ih0 := armadaref05_Small.mono_l k
 unfold armadaref05_Small.f
 repeat' first
   | (with_reducible exact ih0 _ _)
   | (with_reducible exact LeO.refl _)
   | (with_reducible exact LeO.none _)
   | (with_reducible refine LeO.ite ?_ ?_)
   | (with_reducible refine LeO.bind ?_ (fun _ => ?_))
   | exact ih0 _ _
   | exact LeO.none _
   | refine LeO.ite ?_ ?_
   | refine LeO.bind ?_ (fun _ => ?_)
set_option maxHeartbeats 8000000 in
set_option maxRecDepth 100000 in
theorem armadaref05_Small.calls (k : Nat) (A0 : Option Addr) (c0 : Nat) (l0 : List (S49)) (r : Bool) (w : World) (hr0 : Kd.C k49 w A0 l0.length l0) (hc0 : l0.length ≤ c0) (h : armadaref05_Small.f k l0 = some r) :
  Calls Tryd.prog 10 #[.slice A0 l0.length c0] w fun e w' => e = .returned (.bool r) ∧ Drawn0 w w' := by
 have HR0 := Aside0.mk hr0
 have HC0 := Aside0.mk hc0
 clear hr0 hc0
 have H : (armadaref05_Small.l0 k l0 0) = some r := h
 clear h
 have H' := Aside0.mk H
 clear H
 go_enter Tryd.func10, Tryd.ntmps10
 go_wp2
 go_loopg [3] k (fun kq v3 w' => ∃ (x3_1 : Int), v3 = .int .i64 x3_1 ∧ Aside0 (armadaref05_Small.l0 kq l0 x3_1 = some r) ∧ Aside0 (kq ≤ k) ∧ Drawn0 w w')
 case atStart => exact ⟨(0), eY, H', ⟨Nat.le_refl _⟩, by repeat (first | exact Drawn0.refl _ | apply Drawn0.step)⟩
 case round =>
  clear H'
  obtain ⟨x3_1, rfl, HA, HK1, ⟨m1, rfl⟩⟩ := hrel
  cases gk with
  | zero => exact absurd HA.out (by simp [armadaref05_Small.l0])
  | succ k1 =>
   have H := HA.out
   clear HA
   simp only [armadaref05_Small.l0] at H
   by_cases c2 : x3_1 < (l0.length : Int)
   ·rw [if_pos c2] at H
    have c2b0 : decide (x3_1 < (l0.length : Int)) = true := decide_eq_true c2
    clear c2
    by_cases c3 : 0 ≤ x3_1
    ·rw [if_pos c3] at H
     have c3b0 : decide (0 ≤ x3_1) = true := decide_eq_true c3
     clear c3
     by_cases c4 : (((rd_T49 l0 x3_1).f0).size : Int) > 200
     ·rw [if_pos c4] at H
      have c4b0 : decide (200 < (((rd_T49 l0 x3_1).f0).size : Int)) = true := decide_eq_true c4
      have c4b1 : decide (200 < ((rd_T49 l0 x3_1).f0).size) = true := decide_eq_true (by omega)
      clear c4
      obtain rfl := Option.some.inj H
      have p101 : 0 ≤ (x3_1 : Int) := of_decide_eq_true aS
      have q101 : x3_1 < (l0.length : Int) := of_decide_eq_true aS
      obtain ⟨ad101, e101, hx101_0, hx101_1⟩ := at_T49 HR0.out x3_1 p101 q101
      cases e101
      replace p101 := eq_true p101
      replace q101 := eq_true q101
      go_wp2
      go_ret
      exact ⟨by first | rfl | (simp; done) | (simp [*]; done), by repeat (first | exact Drawn0.refl _ | apply Drawn0.step)⟩
     ·rw [if_neg c4] at H
      have c4b0 : decide (200 < (((rd_T49 l0 x3_1).f0).size : Int)) = false := decide_eq_false c4
      have c4b1 : decide (200 < ((rd_T49 l0 x3_1).f0).size) = false := decide_eq_false (by omega)
      clear c4
      by_cases c5 : (((rd_T49 l0 x3_1).f1).size : Int) > 5000
      ·rw [if_pos c5] at H
       have c5b0 : decide (5000 < (((rd_T49 l0 x3_1).f1).size : Int)) = true := decide_eq_true c5
       have c5b1 : decide (5000 < ((rd_T49 l0 x3_1).f1).size) = true := decide_eq_true (by omega)
       clear c5
       obtain rfl := Option.some.inj H
       have p101 : 0 ≤ (x3_1 : Int) := of_decide_eq_true aS
       have q101 : x3_1 < (l0.length : Int) := of_decide_eq_true aS
       obtain ⟨ad101, e101, hx101_0, hx101_1⟩ := at_T49 HR0.out x3_1 p101 q101
       cases e101
       replace p101 := eq_true p101
       replace q101 := eq_true q101
       have p102 : 0 ≤ (x3_1 : Int) := of_decide_eq_true aS
       have q102 : x3_1 < (l0.length : Int) := of_decide_eq_true aS
       obtain ⟨ad102, e102, hx102_0, hx102_1⟩ := at_T49 HR0.out x3_1 p102 q102
       obtain rfl : ad101 = ad102 := (by injection e102)
       replace p102 := eq_true p102
       replace q102 := eq_true q102
       go_wp2
       go_ret
       exact ⟨by first | rfl | (simp; done) | (simp [*]; done), by repeat (first | exact Drawn0.refl _ | apply Drawn0.step)⟩
      ·rw [if_neg c5] at H
       have c5b0 : decide (5000 < (((rd_T49 l0 x3_1).f1).size : Int)) = false := decide_eq_false c5
       have c5b1 : decide (5000 < ((rd_T49 l0 x3_1).f1).size) = false := decide_eq_false (by omega)
       clear c5
       have H' := Aside0.mk H
       clear H
       have p101 : 0 ≤ (x3_1 : Int) := of_decide_eq_true aS
       have q101 : x3_1 < (l0.length : Int) := of_decide_eq_true aS
       obtain ⟨ad101, e101, hx101_0, hx101_1⟩ := at_T49 HR0.out x3_1 p101 q101
       cases e101
       replace p101 := eq_true p101
       replace q101 := eq_true q101
       have p102 : 0 ≤ (x3_1 : Int) := of_decide_eq_true aS
       have q102 : x3_1 < (l0.length : Int) := of_decide_eq_true aS
       obtain ⟨ad102, e102, hx102_0, hx102_1⟩ := at_T49 HR0.out x3_1 p102 q102
       obtain rfl : ad101 = ad102 := (by injection e102)
       replace p102 := eq_true p102
       replace q102 := eq_true q102
       go_wp2
       go_roundg k1
       case measure => have := HK1.out; omega
       case rel => exact ⟨(wrap64 (x3_1 + 1)), eY, H', ⟨by have := HK1.out; omega⟩, by repeat (first | exact Drawn0.refl _ | apply Drawn0.step)⟩
    ·rw [if_neg c3] at H
     exact absurd H (by simp)
   ·rw [if_neg c2] at H
    have c2b0 : decide (x3_1 < (l0.length : Int)) = false := decide_eq_false c2
    clear c2
    obtain rfl := Option.some.inj H
    go_wp2
    go_ret
    exact ⟨by first | rfl | (simp; done) | (simp [*]; done), by repeat (first | exact Drawn0.refl _ | apply Drawn0.step)⟩
def files_plain.f (a0 : Int) : Option (Bool) := if a0 ≥ 97 then (if a0 ≤ 122 then (some true) else (if a0 ≥ 65 then (if a0 ≤ 90 then (some true) else (if a0 ≥ 48 then (if a0 ≤ 57 then (some true) else (if a0 = 45 then (some true) else (if a0 = 95 then (some true) else (some (a0 == 46))))) else (if a0 = 45 then (some true) else (if a0 = 95 then (some true) else (some (a0 == 46)))))) else (if a0 ≥ 48 then (if a0 ≤ 57 then (some true) else (if a0 = 45 then (some true) else (if a0 = 95 then (some true) else (some (a0 == 46))))) else (if a0 = 45 then (some true) else (if a0 = 95 then (some true) else (some (a0 == 46))))))) else (if a0 ≥ 65 then (if a0 ≤ 90 then (some true) else (if a0 ≥ 48 then (if a0 ≤ 57 then (some true) else (if a0 = 45 then (some true) else (if a0 = 95 then (some true) else (some (a0 == 46))))) else (if a0 = 45 then (some true) else (if a0 = 95 then (some true) else (some (a0 == 46)))))) else (if a0 ≥ 48 then (if a0 ≤ 57 then (some true) else (if a0 = 45 then (some true) else (if a0 = 95 then (some true) else (some (a0 == 46))))) else (if a0 = 45 then (some true) else (if a0 = 95 then (some true) else (some (a0 == 46))))))
set_option maxHeartbeats 8000000 in
set_option maxRecDepth 100000 in
theorem files_plain.calls (a0 : Int) (r : Bool) (w : World) (h : files_plain.f a0 = some r) :
  Calls Tryd.prog 52 #[.int .u8 a0] w fun e w' => e = .returned (.bool r) ∧ Drawn0 w w' := by
 have H := h
 unfold files_plain.f at H
 clear h
 by_cases c2 : a0 ≥ 97
 ·rw [if_pos c2] at H
  have c2b0 : decide (97 ≤ a0) = true := decide_eq_true c2
  clear c2
  by_cases c3 : a0 ≤ 122
  ·rw [if_pos c3] at H
   have c3b0 : decide (a0 ≤ 122) = true := decide_eq_true c3
   clear c3
   obtain rfl := Option.some.inj H
   go_enter Tryd.func52, Tryd.ntmps52
   go_wp2
   go_ret
   exact ⟨by first | rfl | (simp; done) | (simp [*]; done), by repeat (first | exact Drawn0.refl _ | apply Drawn0.step)⟩
  ·rw [if_neg c3] at H
   have c3b0 : decide (a0 ≤ 122) = false := decide_eq_false c3
   clear c3
   by_cases c4 : a0 ≥ 65
   ·rw [if_pos c4] at H
    have c4b0 : decide (65 ≤ a0) = true := decide_eq_true c4
    clear c4
    by_cases c5 : a0 ≤ 90
    ·rw [if_pos c5] at H
     have c5b0 : decide (a0 ≤ 90) = true := decide_eq_true c5
     clear c5
     obtain rfl := Option.some.inj H
     go_enter Tryd.func52, Tryd.ntmps52
     go_wp2
     go_ret
     exact ⟨by first | rfl | (simp; done) | (simp [*]; done), by repeat (first | exact Drawn0.refl _ | apply Drawn0.step)⟩
    ·rw [if_neg c5] at H
     have c5b0 : decide (a0 ≤ 90) = false := decide_eq_false c5
     clear c5
     by_cases c6 : a0 ≥ 48
     ·rw [if_pos c6] at H
      have c6b0 : decide (48 ≤ a0) = true := decide_eq_true c6
      clear c6
      by_cases c7 : a0 ≤ 57
      ·rw [if_pos c7] at H
       have c7b0 : decide (a0 ≤ 57) = true := decide_eq_true c7
       clear c7
       obtain rfl := Option.some.inj H
       go_enter Tryd.func52, Tryd.ntmps52
       go_wp2
       go_ret
       exact ⟨by first | rfl | (simp; done) | (simp [*]; done), by repeat (first | exact Drawn0.refl _ | apply Drawn0.step)⟩
      ·rw [if_neg c7] at H
       have c7b0 : decide (a0 ≤ 57) = false := decide_eq_false c7
       clear c7
       by_cases c8 : a0 = 45
       ·rw [if_pos c8] at H
        have c8b0 : (a0 == 45) = true := beq_iff_eq.mpr c8
        have c8b1 : (a0 != 45) = false := bne_eq_false_iff_eq.mpr c8
        clear c8
        obtain rfl := Option.some.inj H
        go_enter Tryd.func52, Tryd.ntmps52
        go_wp2
        go_ret
        exact ⟨by first | rfl | (simp; done) | (simp [*]; done), by repeat (first | exact Drawn0.refl _ | apply Drawn0.step)⟩
       ·rw [if_neg c8] at H
        have c8b0 : (a0 == 45) = false := beq_eq_false_iff_ne.mpr c8
        have c8b1 : (a0 != 45) = true := bne_iff_ne.mpr c8
        by_cases c9 : a0 = 95
        ·rw [if_pos c9] at H
         have c9b0 : (a0 == 95) = true := beq_iff_eq.mpr c9
         have c9b1 : (a0 != 95) = false := bne_eq_false_iff_eq.mpr c9
         clear c9
         obtain rfl := Option.some.inj H
         go_enter Tryd.func52, Tryd.ntmps52
         go_wp2
         go_ret
         exact ⟨by first | rfl | (simp; done) | (simp [*]; done), by repeat (first | exact Drawn0.refl _ | apply Drawn0.step)⟩
        ·rw [if_neg c9] at H
         have c9b0 : (a0 == 95) = false := beq_eq_false_iff_ne.mpr c9
         have c9b1 : (a0 != 95) = true := bne_iff_ne.mpr c9
         obtain rfl := Option.some.inj H
         go_enter Tryd.func52, Tryd.ntmps52
         go_wp2
         go_ret
         exact ⟨by first | rfl | (simp; done) | (simp [*]; done), by repeat (first | exact Drawn0.refl _ | apply Drawn0.step)⟩
     ·rw [if_neg c6] at H
      have c6b0 : decide (48 ≤ a0) = false := decide_eq_false c6
      clear c6
      by_cases c10 : a0 = 45
      ·rw [if_pos c10] at H
       have c10b0 : (a0 == 45) = true := beq_iff_eq.mpr c10
       have c10b1 : (a0 != 45) = false := bne_eq_false_iff_eq.mpr c10
       clear c10
       obtain rfl := Option.some.inj H
       go_enter Tryd.func52, Tryd.ntmps52
       go_wp2
       go_ret
       exact ⟨by first | rfl | (simp; done) | (simp [*]; done), by repeat (first | exact Drawn0.refl _ | apply Drawn0.step)⟩
      ·rw [if_neg c10] at H
       have c10b0 : (a0 == 45) = false := beq_eq_false_iff_ne.mpr c10
       have c10b1 : (a0 != 45) = true := bne_iff_ne.mpr c10
       by_cases c11 : a0 = 95
       ·rw [if_pos c11] at H
        have c11b0 : (a0 == 95) = true := beq_iff_eq.mpr c11
        have c11b1 : (a0 != 95) = false := bne_eq_false_iff_eq.mpr c11
        clear c11
        obtain rfl := Option.some.inj H
        go_enter Tryd.func52, Tryd.ntmps52
        go_wp2
        go_ret
        exact ⟨by first | rfl | (simp; done) | (simp [*]; done), by repeat (first | exact Drawn0.refl _ | apply Drawn0.step)⟩
       ·rw [if_neg c11] at H
        have c11b0 : (a0 == 95) = false := beq_eq_false_iff_ne.mpr c11
        have c11b1 : (a0 != 95) = true := bne_iff_ne.mpr c11
        obtain rfl := Option.some.inj H
        go_enter Tryd.func52, Tryd.ntmps52
        go_wp2
        go_ret
        exact ⟨by first | rfl | (simp; done) | (simp [*]; done), by repeat (first | exact Drawn0.refl _ | apply Drawn0.step)⟩
   ·rw [if_neg c4] at H
    have c4b0 : decide (65 ≤ a0) = false := decide_eq_false c4
    clear c4
    by_cases c12 : a0 ≥ 48
    ·rw [if_pos c12] at H
     have c12b0 : decide (48 ≤ a0) = true := decide_eq_true c12
     clear c12
     by_cases c13 : a0 ≤ 57
     ·rw [if_pos c13] at H
      have c13b0 : decide (a0 ≤ 57) = true := decide_eq_true c13
      clear c13
      obtain rfl := Option.some.inj H
      go_enter Tryd.func52, Tryd.ntmps52
      go_wp2
      go_ret
      exact ⟨by first | rfl | (simp; done) | (simp [*]; done), by repeat (first | exact Drawn0.refl _ | apply Drawn0.step)⟩
     ·rw [if_neg c13] at H
      have c13b0 : decide (a0 ≤ 57) = false := decide_eq_false c13
      clear c13
      by_cases c14 : a0 = 45
      ·rw [if_pos c14] at H
       have c14b0 : (a0 == 45) = true := beq_iff_eq.mpr c14
       have c14b1 : (a0 != 45) = false := bne_eq_false_iff_eq.mpr c14
       clear c14
       obtain rfl := Option.some.inj H
       go_enter Tryd.func52, Tryd.ntmps52
       go_wp2
       go_ret
       exact ⟨by first | rfl | (simp; done) | (simp [*]; done), by repeat (first | exact Drawn0.refl _ | apply Drawn0.step)⟩
      ·rw [if_neg c14] at H
       have c14b0 : (a0 == 45) = false := beq_eq_false_iff_ne.mpr c14
       have c14b1 : (a0 != 45) = true := bne_iff_ne.mpr c14
       by_cases c15 : a0 = 95
       ·rw [if_pos c15] at H
        have c15b0 : (a0 == 95) = true := beq_iff_eq.mpr c15
        have c15b1 : (a0 != 95) = false := bne_eq_false_iff_eq.mpr c15
        clear c15
        obtain rfl := Option.some.inj H
        go_enter Tryd.func52, Tryd.ntmps52
        go_wp2
        go_ret
        exact ⟨by first | rfl | (simp; done) | (simp [*]; done), by repeat (first | exact Drawn0.refl _ | apply Drawn0.step)⟩
       ·rw [if_neg c15] at H
        have c15b0 : (a0 == 95) = false := beq_eq_false_iff_ne.mpr c15
        have c15b1 : (a0 != 95) = true := bne_iff_ne.mpr c15
        obtain rfl := Option.some.inj H
        go_enter Tryd.func52, Tryd.ntmps52
        go_wp2
        go_ret
        exact ⟨by first | rfl | (simp; done) | (simp [*]; done), by repeat (first | exact Drawn0.refl _ | apply Drawn0.step)⟩
    ·rw [if_neg c12] at H
     have c12b0 : decide (48 ≤ a0) = false := decide_eq_false c12
     clear c12
     by_cases c16 : a0 = 45
     ·rw [if_pos c16] at H
      have c16b0 : (a0 == 45) = true := beq_iff_eq.mpr c16
      have c16b1 : (a0 != 45) = false := bne_eq_false_iff_eq.mpr c16
      clear c16
      obtain rfl := Option.some.inj H
      go_enter Tryd.func52, Tryd.ntmps52
      go_wp2
      go_ret
      exact ⟨by first | rfl | (simp; done) | (simp [*]; done), by repeat (first | exact Drawn0.refl _ | apply Drawn0.step)⟩
     ·rw [if_neg c16] at H
      have c16b0 : (a0 == 45) = false := beq_eq_false_iff_ne.mpr c16
      have c16b1 : (a0 != 45) = true := bne_iff_ne.mpr c16
      by_cases c17 : a0 = 95
      ·rw [if_pos c17] at H
       have c17b0 : (a0 == 95) = true := beq_iff_eq.mpr c17
       have c17b1 : (a0 != 95) = false := bne_eq_false_iff_eq.mpr c17
       clear c17
       obtain rfl := Option.some.inj H
       go_enter Tryd.func52, Tryd.ntmps52
       go_wp2
       go_ret
       exact ⟨by first | rfl | (simp; done) | (simp [*]; done), by repeat (first | exact Drawn0.refl _ | apply Drawn0.step)⟩
      ·rw [if_neg c17] at H
       have c17b0 : (a0 == 95) = false := beq_eq_false_iff_ne.mpr c17
       have c17b1 : (a0 != 95) = true := bne_iff_ne.mpr c17
       obtain rfl := Option.some.inj H
       go_enter Tryd.func52, Tryd.ntmps52
       go_wp2
       go_ret
       exact ⟨by first | rfl | (simp; done) | (simp [*]; done), by repeat (first | exact Drawn0.refl _ | apply Drawn0.step)⟩
 ·rw [if_neg c2] at H
  have c2b0 : decide (97 ≤ a0) = false := decide_eq_false c2
  clear c2
  by_cases c18 : a0 ≥ 65
  ·rw [if_pos c18] at H
   have c18b0 : decide (65 ≤ a0) = true := decide_eq_true c18
   clear c18
   by_cases c19 : a0 ≤ 90
   ·rw [if_pos c19] at H
    have c19b0 : decide (a0 ≤ 90) = true := decide_eq_true c19
    clear c19
    obtain rfl := Option.some.inj H
    go_enter Tryd.func52, Tryd.ntmps52
    go_wp2
    go_ret
    exact ⟨by first | rfl | (simp; done) | (simp [*]; done), by repeat (first | exact Drawn0.refl _ | apply Drawn0.step)⟩
   ·rw [if_neg c19] at H
    have c19b0 : decide (a0 ≤ 90) = false := decide_eq_false c19
    clear c19
    by_cases c20 : a0 ≥ 48
    ·rw [if_pos c20] at H
     have c20b0 : decide (48 ≤ a0) = true := decide_eq_true c20
     clear c20
     by_cases c21 : a0 ≤ 57
     ·rw [if_pos c21] at H
      have c21b0 : decide (a0 ≤ 57) = true := decide_eq_true c21
      clear c21
      obtain rfl := Option.some.inj H
      go_enter Tryd.func52, Tryd.ntmps52
      go_wp2
      go_ret
      exact ⟨by first | rfl | (simp; done) | (simp [*]; done), by repeat (first | exact Drawn0.refl _ | apply Drawn0.step)⟩
     ·rw [if_neg c21] at H
      have c21b0 : decide (a0 ≤ 57) = false := decide_eq_false c21
      clear c21
      by_cases c22 : a0 = 45
      ·rw [if_pos c22] at H
       have c22b0 : (a0 == 45) = true := beq_iff_eq.mpr c22
       have c22b1 : (a0 != 45) = false := bne_eq_false_iff_eq.mpr c22
       clear c22
       obtain rfl := Option.some.inj H
       go_enter Tryd.func52, Tryd.ntmps52
       go_wp2
       go_ret
       exact ⟨by first | rfl | (simp; done) | (simp [*]; done), by repeat (first | exact Drawn0.refl _ | apply Drawn0.step)⟩
      ·rw [if_neg c22] at H
       have c22b0 : (a0 == 45) = false := beq_eq_false_iff_ne.mpr c22
       have c22b1 : (a0 != 45) = true := bne_iff_ne.mpr c22
       by_cases c23 : a0 = 95
       ·rw [if_pos c23] at H
        have c23b0 : (a0 == 95) = true := beq_iff_eq.mpr c23
        have c23b1 : (a0 != 95) = false := bne_eq_false_iff_eq.mpr c23
        clear c23
        obtain rfl := Option.some.inj H
        go_enter Tryd.func52, Tryd.ntmps52
        go_wp2
        go_ret
        exact ⟨by first | rfl | (simp; done) | (simp [*]; done), by repeat (first | exact Drawn0.refl _ | apply Drawn0.step)⟩
       ·rw [if_neg c23] at H
        have c23b0 : (a0 == 95) = false := beq_eq_false_iff_ne.mpr c23
        have c23b1 : (a0 != 95) = true := bne_iff_ne.mpr c23
        obtain rfl := Option.some.inj H
        go_enter Tryd.func52, Tryd.ntmps52
        go_wp2
        go_ret
        exact ⟨by first | rfl | (simp; done) | (simp [*]; done), by repeat (first | exact Drawn0.refl _ | apply Drawn0.step)⟩
    ·rw [if_neg c20] at H
     have c20b0 : decide (48 ≤ a0) = false := decide_eq_false c20
     clear c20
     by_cases c24 : a0 = 45
     ·rw [if_pos c24] at H
      have c24b0 : (a0 == 45) = true := beq_iff_eq.mpr c24
      have c24b1 : (a0 != 45) = false := bne_eq_false_iff_eq.mpr c24
      clear c24
      obtain rfl := Option.some.inj H
      go_enter Tryd.func52, Tryd.ntmps52
      go_wp2
      go_ret
      exact ⟨by first | rfl | (simp; done) | (simp [*]; done), by repeat (first | exact Drawn0.refl _ | apply Drawn0.step)⟩
     ·rw [if_neg c24] at H
      have c24b0 : (a0 == 45) = false := beq_eq_false_iff_ne.mpr c24
      have c24b1 : (a0 != 45) = true := bne_iff_ne.mpr c24
      by_cases c25 : a0 = 95
      ·rw [if_pos c25] at H
       have c25b0 : (a0 == 95) = true := beq_iff_eq.mpr c25
       have c25b1 : (a0 != 95) = false := bne_eq_false_iff_eq.mpr c25
       clear c25
       obtain rfl := Option.some.inj H
       go_enter Tryd.func52, Tryd.ntmps52
       go_wp2
       go_ret
       exact ⟨by first | rfl | (simp; done) | (simp [*]; done), by repeat (first | exact Drawn0.refl _ | apply Drawn0.step)⟩
      ·rw [if_neg c25] at H
       have c25b0 : (a0 == 95) = false := beq_eq_false_iff_ne.mpr c25
       have c25b1 : (a0 != 95) = true := bne_iff_ne.mpr c25
       obtain rfl := Option.some.inj H
       go_enter Tryd.func52, Tryd.ntmps52
       go_wp2
       go_ret
       exact ⟨by first | rfl | (simp; done) | (simp [*]; done), by repeat (first | exact Drawn0.refl _ | apply Drawn0.step)⟩
  ·rw [if_neg c18] at H
   have c18b0 : decide (65 ≤ a0) = false := decide_eq_false c18
   clear c18
   by_cases c26 : a0 ≥ 48
   ·rw [if_pos c26] at H
    have c26b0 : decide (48 ≤ a0) = true := decide_eq_true c26
    clear c26
    by_cases c27 : a0 ≤ 57
    ·rw [if_pos c27] at H
     have c27b0 : decide (a0 ≤ 57) = true := decide_eq_true c27
     clear c27
     obtain rfl := Option.some.inj H
     go_enter Tryd.func52, Tryd.ntmps52
     go_wp2
     go_ret
     exact ⟨by first | rfl | (simp; done) | (simp [*]; done), by repeat (first | exact Drawn0.refl _ | apply Drawn0.step)⟩
    ·rw [if_neg c27] at H
     have c27b0 : decide (a0 ≤ 57) = false := decide_eq_false c27
     clear c27
     by_cases c28 : a0 = 45
     ·rw [if_pos c28] at H
      have c28b0 : (a0 == 45) = true := beq_iff_eq.mpr c28
      have c28b1 : (a0 != 45) = false := bne_eq_false_iff_eq.mpr c28
      clear c28
      obtain rfl := Option.some.inj H
      go_enter Tryd.func52, Tryd.ntmps52
      go_wp2
      go_ret
      exact ⟨by first | rfl | (simp; done) | (simp [*]; done), by repeat (first | exact Drawn0.refl _ | apply Drawn0.step)⟩
     ·rw [if_neg c28] at H
      have c28b0 : (a0 == 45) = false := beq_eq_false_iff_ne.mpr c28
      have c28b1 : (a0 != 45) = true := bne_iff_ne.mpr c28
      by_cases c29 : a0 = 95
      ·rw [if_pos c29] at H
       have c29b0 : (a0 == 95) = true := beq_iff_eq.mpr c29
       have c29b1 : (a0 != 95) = false := bne_eq_false_iff_eq.mpr c29
       clear c29
       obtain rfl := Option.some.inj H
       go_enter Tryd.func52, Tryd.ntmps52
       go_wp2
       go_ret
       exact ⟨by first | rfl | (simp; done) | (simp [*]; done), by repeat (first | exact Drawn0.refl _ | apply Drawn0.step)⟩
      ·rw [if_neg c29] at H
       have c29b0 : (a0 == 95) = false := beq_eq_false_iff_ne.mpr c29
       have c29b1 : (a0 != 95) = true := bne_iff_ne.mpr c29
       obtain rfl := Option.some.inj H
       go_enter Tryd.func52, Tryd.ntmps52
       go_wp2
       go_ret
       exact ⟨by first | rfl | (simp; done) | (simp [*]; done), by repeat (first | exact Drawn0.refl _ | apply Drawn0.step)⟩
   ·rw [if_neg c26] at H
    have c26b0 : decide (48 ≤ a0) = false := decide_eq_false c26
    clear c26
    by_cases c30 : a0 = 45
    ·rw [if_pos c30] at H
     have c30b0 : (a0 == 45) = true := beq_iff_eq.mpr c30
     have c30b1 : (a0 != 45) = false := bne_eq_false_iff_eq.mpr c30
     clear c30
     obtain rfl := Option.some.inj H
     go_enter Tryd.func52, Tryd.ntmps52
     go_wp2
     go_ret
     exact ⟨by first | rfl | (simp; done) | (simp [*]; done), by repeat (first | exact Drawn0.refl _ | apply Drawn0.step)⟩
    ·rw [if_neg c30] at H
     have c30b0 : (a0 == 45) = false := beq_eq_false_iff_ne.mpr c30
     have c30b1 : (a0 != 45) = true := bne_iff_ne.mpr c30
     by_cases c31 : a0 = 95
     ·rw [if_pos c31] at H
      have c31b0 : (a0 == 95) = true := beq_iff_eq.mpr c31
      have c31b1 : (a0 != 95) = false := bne_eq_false_iff_eq.mpr c31
      clear c31
      obtain rfl := Option.some.inj H
      go_enter Tryd.func52, Tryd.ntmps52
      go_wp2
      go_ret
      exact ⟨by first | rfl | (simp; done) | (simp [*]; done), by repeat (first | exact Drawn0.refl _ | apply Drawn0.step)⟩
     ·rw [if_neg c31] at H
      have c31b0 : (a0 == 95) = false := beq_eq_false_iff_ne.mpr c31
      have c31b1 : (a0 != 95) = true := bne_iff_ne.mpr c31
      obtain rfl := Option.some.inj H
      go_enter Tryd.func52, Tryd.ntmps52
      go_wp2
      go_ret
      exact ⟨by first | rfl | (simp; done) | (simp [*]; done), by repeat (first | exact Drawn0.refl _ | apply Drawn0.step)⟩
def files_part.l0 : Nat → ByteArray → Int → Int → Option (Bool)
 | 0, _, _, _ => none
 | k + 1, x0, x5, x6 => if x6 < x5 then (if 0 ≤ x6 then (if x6 < (x0.size : Int) then ((files_plain.f (bt x0 x6)).bind fun t103 => (if t103 = true then (files_part.l0 k x0 x5 (wrap64 (x6 + 1))) else (some false))) else (none)) else (none)) else (if x0.toList = ([] : List UInt8) then (some false) else (if x0.toList = ([46] : List UInt8) then (some false) else (some (x0.toList != ([46, 46] : List UInt8)))))
def files_part.f (k : Nat) (a0 : ByteArray) : Option (Bool) := files_part.l0 k a0 (a0.size : Int) 0
theorem files_part.mono_l : ∀ k, (∀ y0 y1 y2, LeO (files_part.l0 k y0 y1 y2) (files_part.l0 (k + 1) y0 y1 y2))
 | 0 => fun _ _ _ r h => by simp [files_part.l0] at h
 | k + 1 => by
  have ih0 := files_part.mono_l k
  ·intro y0 y1 y2
   unfold files_part.l0
   repeat' first
   | (with_reducible exact ih0 _ _ _)
   | (with_reducible exact LeO.refl _)
   | (with_reducible exact LeO.none _)
   | (with_reducible refine LeO.ite ?_ ?_)
   | (with_reducible refine LeO.bind ?_ (fun _ => ?_))
   | exact ih0 _ _ _
   | exact LeO.none _
   | refine LeO.ite ?_ ?_
   | refine LeO.bind ?_ (fun _ => ?_)
theorem files_part.mono : ∀ a0 k, LeO (files_part.f k a0) (files_part.f (k + 1) a0) := by
 intro a0 k
 have ih0 := files_part.mono_l k
 unfold files_part.f
 repeat' first
   | (with_reducible exact ih0 _ _ _)
   | (with_reducible exact LeO.refl _)
   | (with_reducible exact LeO.none _)
   | (with_reducible refine LeO.ite ?_ ?_)
   | (with_reducible refine LeO.bind ?_ (fun _ => ?_))
   | exact ih0 _ _ _
   | exact LeO.none _
   | refine LeO.ite ?_ ?_
   | refine LeO.bind ?_ (fun _ => ?_)
set_option maxHeartbeats 8000000 in
set_option maxRecDepth 100000 in
theorem files_part.calls (k : Nat) (a0 : ByteArray) (r : Bool) (w : World) (h : files_part.f k a0 = some r) :
  Calls Tryd.prog 33 #[.string a0] w fun e w' => e = .returned (.bool r) ∧ Drawn0 w w' := by
 have H : (files_part.l0 k a0 (a0.size : Int) 0) = some r := h
 clear h
 have H' := Aside0.mk H
 clear H
 go_enter Tryd.func33, Tryd.ntmps33
 go_wp2
 go_loopg [6] k (fun kq v6 w' => ∃ (x6_1 : Int), v6 = .int .i64 x6_1 ∧ Aside0 (files_part.l0 kq a0 (a0.size : Int) x6_1 = some r) ∧ Aside0 (kq ≤ k) ∧ Drawn0 w w')
 case atStart => exact ⟨(0), eY, H', ⟨Nat.le_refl _⟩, by repeat (first | exact Drawn0.refl _ | apply Drawn0.step)⟩
 case round =>
  clear H'
  obtain ⟨x6_1, rfl, HA, HK1, ⟨m1, rfl⟩⟩ := hrel
  cases gk with
  | zero => exact absurd HA.out (by simp [files_part.l0])
  | succ k1 =>
   have H := HA.out
   clear HA
   simp only [files_part.l0] at H
   by_cases c2 : x6_1 < (a0.size : Int)
   ·rw [if_pos c2] at H
    have c2b0 : decide (x6_1 < (a0.size : Int)) = true := decide_eq_true c2
    clear c2
    by_cases c3 : 0 ≤ x6_1
    ·rw [if_pos c3] at H
     have c3b0 : decide (0 ≤ x6_1) = true := decide_eq_true c3
     clear c3
     by_cases c4 : x6_1 < (a0.size : Int)
     ·rw [if_pos c4] at H
      have c4b0 : decide (x6_1 < (a0.size : Int)) = true := decide_eq_true c4
      clear c4
      replace H := Option.bind_eq_some_iff.mp H
      obtain ⟨t103, A60, H⟩ := H
      try dsimp only at H
      have A6 := Aside0.mk A60
      clear A60
      by_cases c7 : t103 = true
      ·subst c7
       rw [if_pos rfl] at H
       have H' := Aside0.mk H
       clear H
       have p5 : 0 ≤ (x6_1 : Int) := of_decide_eq_true aS
       have q5 : x6_1 < (a0.size : Int) := of_decide_eq_true aS
       have hx5 := bt_at a0 x6_1
       replace p5 := eq_true p5
       replace q5 := eq_true q5
       go_wp2_with (first | ((with_reducible refine gate_callee (f := 52) rfl ?_); refine gL (some 12) Tryd.func52 #[.int .u8 (bt a0 x6_1)] ?_; (with_reducible refine (files_plain.calls (bt a0 x6_1) true _ A6.out).mono ?_); rintro e w' ⟨rfl, ⟨nd, rfl⟩⟩; refine ⟨_, rfl, ?_⟩) | (go_at_call 52; (with_reducible refine (files_plain.calls (bt a0 x6_1) true _ A6.out).mono ?_); rintro e w' ⟨rfl, ⟨nd, rfl⟩⟩))
       go_roundg k1
       case measure => have := HK1.out; omega
       case rel => exact ⟨(wrap64 (x6_1 + 1)), eY, H', ⟨by have := HK1.out; omega⟩, by repeat (first | exact Drawn0.refl _ | apply Drawn0.step)⟩
      ·replace c7 := Bool.eq_false_iff.mpr c7
       subst c7
       rw [if_neg nF_] at H
       obtain rfl := Option.some.inj H
       have p5 : 0 ≤ (x6_1 : Int) := of_decide_eq_true aS
       have q5 : x6_1 < (a0.size : Int) := of_decide_eq_true aS
       have hx5 := bt_at a0 x6_1
       replace p5 := eq_true p5
       replace q5 := eq_true q5
       go_wp2_with (first | ((with_reducible refine gate_callee (f := 52) rfl ?_); refine gL (some 12) Tryd.func52 #[.int .u8 (bt a0 x6_1)] ?_; (with_reducible refine (files_plain.calls (bt a0 x6_1) false _ A6.out).mono ?_); rintro e w' ⟨rfl, ⟨nd, rfl⟩⟩; refine ⟨_, rfl, ?_⟩) | (go_at_call 52; (with_reducible refine (files_plain.calls (bt a0 x6_1) false _ A6.out).mono ?_); rintro e w' ⟨rfl, ⟨nd, rfl⟩⟩))
       go_ret
       exact ⟨by first | rfl | (simp; done) | (simp [*]; done), by repeat (first | exact Drawn0.refl _ | apply Drawn0.step)⟩
     ·rw [if_neg c4] at H
      exact absurd H (by simp)
    ·rw [if_neg c3] at H
     exact absurd H (by simp)
   ·rw [if_neg c2] at H
    have c2b0 : decide (x6_1 < (a0.size : Int)) = false := decide_eq_false c2
    clear c2
    by_cases c8 : a0.toList = ([] : List UInt8)
    ·rw [if_pos c8] at H
     have c8b0 : (a0.toList == ([] : List UInt8)) = true := beq_iff_eq.mpr c8
     have c8b1 : (a0.toList != ([] : List UInt8)) = false := bne_eq_false_iff_eq.mpr c8
     clear c8
     obtain rfl := Option.some.inj H
     go_wp2
     go_ret
     exact ⟨by first | rfl | (simp; done) | (simp [*]; done), by repeat (first | exact Drawn0.refl _ | apply Drawn0.step)⟩
    ·rw [if_neg c8] at H
     have c8b0 : (a0.toList == ([] : List UInt8)) = false := beq_eq_false_iff_ne.mpr c8
     have c8b1 : (a0.toList != ([] : List UInt8)) = true := bne_iff_ne.mpr c8
     by_cases c9 : a0.toList = ([46] : List UInt8)
     ·rw [if_pos c9] at H
      have c9b0 : (a0.toList == ([46] : List UInt8)) = true := beq_iff_eq.mpr c9
      have c9b1 : (a0.toList != ([46] : List UInt8)) = false := bne_eq_false_iff_eq.mpr c9
      clear c9
      obtain rfl := Option.some.inj H
      go_wp2
      go_ret
      exact ⟨by first | rfl | (simp; done) | (simp [*]; done), by repeat (first | exact Drawn0.refl _ | apply Drawn0.step)⟩
     ·rw [if_neg c9] at H
      have c9b0 : (a0.toList == ([46] : List UInt8)) = false := beq_eq_false_iff_ne.mpr c9
      have c9b1 : (a0.toList != ([46] : List UInt8)) = true := bne_iff_ne.mpr c9
      obtain rfl := Option.some.inj H
      go_wp2
      go_ret
      exact ⟨by first | rfl | (simp; done) | (simp [*]; done), by repeat (first | exact Drawn0.refl _ | apply Drawn0.step)⟩
section
attribute [local go_sem high] eqA49
def api_File_36.l0 : Nat → List (S49) → List (S49) → Int → Int → Option (Bool)
 | 0, _, _, _, _ => none
 | k + 1, x0, x1, x12, x13 => if x13 < x12 then (if 0 ≤ x13 then (if x13 < (x0.length : Int) then (if x13 < (x1.length : Int) then (if (!((((rd_T49 x0 x13).f0).toList) == (((rd_T49 x1 x13).f0).toList)) || (!((((rd_T49 x0 x13).f1).toList) == (((rd_T49 x1 x13).f1).toList)))) = true then (some false) else (api_File_36.l0 k x0 x1 x12 (wrap64 (x13 + 1)))) else (none)) else (none)) else (none)) else (some true)
def api_File_36.f (k : Nat) (l0 : List (S49)) (l1 : List (S49)) : Option (Bool) := if (l0.length : Int) = (l1.length : Int) then (api_File_36.l0 k l0 l1 (l0.length : Int) 0) else (some false)
theorem api_File_36.mono_l : ∀ k, (∀ y0 y1 y2 y3, LeO (api_File_36.l0 k y0 y1 y2 y3) (api_File_36.l0 (k + 1) y0 y1 y2 y3))
 | 0 => fun _ _ _ _ r h => by simp [api_File_36.l0] at h
 | k + 1 => by
  have ih0 := api_File_36.mono_l k
  ·intro y0 y1 y2 y3
   unfold api_File_36.l0
   repeat' first
   | (with_reducible exact ih0 _ _ _ _)
   | (with_reducible exact LeO.refl _)
   | (with_reducible exact LeO.none _)
   | (with_reducible refine LeO.ite ?_ ?_)
   | (with_reducible refine LeO.bind ?_ (fun _ => ?_))
   | exact ih0 _ _ _ _
   | exact LeO.none _
   | refine LeO.ite ?_ ?_
   | refine LeO.bind ?_ (fun _ => ?_)
theorem api_File_36.mono : ∀ a0 a1 k, LeO (api_File_36.f k a0 a1) (api_File_36.f (k + 1) a0 a1) := by
 intro a0 a1 k
 have ih0 := api_File_36.mono_l k
 unfold api_File_36.f
 repeat' first
   | (with_reducible exact ih0 _ _ _ _)
   | (with_reducible exact LeO.refl _)
   | (with_reducible exact LeO.none _)
   | (with_reducible refine LeO.ite ?_ ?_)
   | (with_reducible refine LeO.bind ?_ (fun _ => ?_))
   | exact ih0 _ _ _ _
   | exact LeO.none _
   | refine LeO.ite ?_ ?_
   | refine LeO.bind ?_ (fun _ => ?_)
set_option maxHeartbeats 8000000 in
set_option maxRecDepth 100000 in
theorem api_File_36.calls (k : Nat) (A0 : Option Addr) (c0 : Nat) (l0 : List (S49)) (A1 : Option Addr) (c1 : Nat) (l1 : List (S49)) (r : Bool) (w : World) (hr0 : Kd.C k49 w A0 l0.length l0) (hc0 : l0.length ≤ c0) (hr1 : Kd.C k49 w A1 l1.length l1) (hc1 : l1.length ≤ c1) (h : api_File_36.f k l0 l1 = some r) :
  Calls Tryd.prog 36 #[.slice A0 l0.length c0, .slice A1 l1.length c1] w fun e w' => e = .returned (.bool r) ∧ Drawn0 w w' := by
 have hu49 := Tryd.underlying49
 have HR0 := Aside0.mk hr0
 have HC0 := Aside0.mk hc0
 clear hr0 hc0
 have HR1 := Aside0.mk hr1
 have HC1 := Aside0.mk hc1
 clear hr1 hc1
 have H : (if (l0.length : Int) = (l1.length : Int) then (api_File_36.l0 k l0 l1 (l0.length : Int) 0) else (some false)) = some r := h
 clear h
 by_cases c3 : (l0.length : Int) = (l1.length : Int)
 ·rw [if_pos c3] at H
  have c3b0 : ((l0.length : Int) == (l1.length : Int)) = true := beq_iff_eq.mpr c3
  have c3b1 : ((l0.length : Int) != (l1.length : Int)) = false := bne_eq_false_iff_eq.mpr c3
  have c3b2 : (l0.length == l1.length) = true := by first | simpa using c3 | (simp at c3 ⊢; omega)
  clear c3
  have H' := Aside0.mk H
  clear H
  go_enter Tryd.func36, Tryd.ntmps36
  go_wp2
  repeat (go_quiet (fail); try go_wp2)
  go_loopg [13] k (fun kq v13 w' => ∃ (x13_1 : Int), v13 = .int .i64 x13_1 ∧ Aside0 (api_File_36.l0 kq l0 l1 (l0.length : Int) x13_1 = some r) ∧ Aside0 (kq ≤ k) ∧ Drawn0 w w')
  case atStart => exact ⟨(0), eY, H', ⟨Nat.le_refl _⟩, by repeat (first | exact Drawn0.refl _ | apply Drawn0.step)⟩
  case round =>
   clear H'
   (try clear p2); (try clear c3b0); (try clear c3b1); (try clear c3b2)
   obtain ⟨x13_1, rfl, HA, HK1, ⟨m1, rfl⟩⟩ := hrel
   cases gk with
   | zero => exact absurd HA.out (by simp [api_File_36.l0])
   | succ k1 =>
    have H := HA.out
    clear HA
    simp only [api_File_36.l0] at H
    by_cases c4 : x13_1 < (l0.length : Int)
    ·rw [if_pos c4] at H
     have c4b0 : decide (x13_1 < (l0.length : Int)) = true := decide_eq_true c4
     clear c4
     by_cases c5 : 0 ≤ x13_1
     ·rw [if_pos c5] at H
      have c5b0 : decide (0 ≤ x13_1) = true := decide_eq_true c5
      clear c5
      by_cases c6 : x13_1 < (l0.length : Int)
      ·rw [if_pos c6] at H
       have c6b0 : decide (x13_1 < (l0.length : Int)) = true := decide_eq_true c6
       clear c6
       by_cases c7 : x13_1 < (l1.length : Int)
       ·rw [if_pos c7] at H
        have c7b0 : decide (x13_1 < (l1.length : Int)) = true := decide_eq_true c7
        clear c7
        by_cases c8 : (!((((rd_T49 l0 x13_1).f0).toList) == (((rd_T49 l1 x13_1).f0).toList)) || (!((((rd_T49 l0 x13_1).f1).toList) == (((rd_T49 l1 x13_1).f1).toList)))) = true
        ·rw [if_pos c8] at H
         have c8b0 : (!((((rd_T49 l0 x13_1).f0).toList) == (((rd_T49 l1 x13_1).f0).toList)) || (!((((rd_T49 l0 x13_1).f1).toList) == (((rd_T49 l1 x13_1).f1).toList)))) = true := c8
         clear c8
         obtain rfl := Option.some.inj H
         have p107 : 0 ≤ (x13_1 : Int) := of_decide_eq_true aS
         have q107 : x13_1 < (l0.length : Int) := of_decide_eq_true aS
         obtain ⟨ad107, e107, hx107_0, hx107_1⟩ := at_T49 HR0.out x13_1 p107 q107
         cases e107
         replace p107 := eq_true p107
         replace q107 := eq_true q107
         have p108 : 0 ≤ (x13_1 : Int) := of_decide_eq_true aS
         have q108 : x13_1 < (l1.length : Int) := of_decide_eq_true aS
         obtain ⟨ad108, e108, hx108_0, hx108_1⟩ := at_T49 HR1.out x13_1 p108 q108
         cases e108
         replace p108 := eq_true p108
         replace q108 := eq_true q108
         go_wp2
         repeat (go_quiet (fail); try go_wp2)
         go_ret
         exact ⟨by first | rfl | (simp; done) | (simp [*]; done), by repeat (first | exact Drawn0.refl _ | apply Drawn0.step)⟩
        ·rw [if_neg c8] at H
         have c8b0 : (!((((rd_T49 l0 x13_1).f0).toList) == (((rd_T49 l1 x13_1).f0).toList)) || (!((((rd_T49 l0 x13_1).f1).toList) == (((rd_T49 l1 x13_1).f1).toList)))) = false := by simpa using c8
         clear c8
         have H' := Aside0.mk H
         clear H
         have p107 : 0 ≤ (x13_1 : Int) := of_decide_eq_true aS
         have q107 : x13_1 < (l0.length : Int) := of_decide_eq_true aS
         obtain ⟨ad107, e107, hx107_0, hx107_1⟩ := at_T49 HR0.out x13_1 p107 q107
         cases e107
         replace p107 := eq_true p107
         replace q107 := eq_true q107
         have p108 : 0 ≤ (x13_1 : Int) := of_decide_eq_true aS
         have q108 : x13_1 < (l1.length : Int) := of_decide_eq_true aS
         obtain ⟨ad108, e108, hx108_0, hx108_1⟩ := at_T49 HR1.out x13_1 p108 q108
         cases e108
         replace p108 := eq_true p108
         replace q108 := eq_true q108
         go_wp2
         repeat (go_quiet (fail); try go_wp2)
         go_roundg k1
         case measure => have := HK1.out; omega
         case rel => exact ⟨(wrap64 (x13_1 + 1)), eY, H', ⟨by have := HK1.out; omega⟩, by repeat (first | exact Drawn0.refl _ | apply Drawn0.step)⟩
       ·rw [if_neg c7] at H
        exact absurd H (by simp)
      ·rw [if_neg c6] at H
       exact absurd H (by simp)
     ·rw [if_neg c5] at H
      exact absurd H (by simp)
    ·rw [if_neg c4] at H
     have c4b0 : decide (x13_1 < (l0.length : Int)) = false := decide_eq_false c4
     clear c4
     obtain rfl := Option.some.inj H
     go_wp2
     repeat (go_quiet (fail); try go_wp2)
     go_ret
     exact ⟨by first | rfl | (simp; done) | (simp [*]; done), by repeat (first | exact Drawn0.refl _ | apply Drawn0.step)⟩
 ·rw [if_neg c3] at H
  have c3b0 : ((l0.length : Int) == (l1.length : Int)) = false := beq_eq_false_iff_ne.mpr c3
  have c3b1 : ((l0.length : Int) != (l1.length : Int)) = true := bne_iff_ne.mpr c3
  have c3b2 : (l0.length == l1.length) = false := by first | simpa using c3 | (simp at c3 ⊢; omega)
  obtain rfl := Option.some.inj H
  go_enter Tryd.func36, Tryd.ntmps36
  go_wp2
  repeat (go_quiet (fail); try go_wp2)
  go_ret
  exact ⟨by first | rfl | (simp; done) | (simp [*]; done), by repeat (first | exact Drawn0.refl _ | apply Drawn0.step)⟩
end
def files_Same.f (k : Nat) (l0 : List (S49)) (l1 : List (S49)) : Option (Bool) := (api_File_36.f k l0 l1).bind fun t109 => (some t109)
theorem files_Same.mono : ∀ a0 a1 k, LeO (files_Same.f k a0 a1) (files_Same.f (k + 1) a0 a1) := by
 intro a0 a1 k
 unfold files_Same.f
 repeat' first
   | (with_reducible exact api_File_36.mono _ _ _)
   | (with_reducible exact LeO.refl _)
   | (with_reducible exact LeO.none _)
   | (with_reducible refine LeO.ite ?_ ?_)
   | (with_reducible refine LeO.bind ?_ (fun _ => ?_))
   | exact api_File_36.mono _ _ _
   | exact LeO.none _
   | refine LeO.ite ?_ ?_
   | refine LeO.bind ?_ (fun _ => ?_)
set_option maxHeartbeats 8000000 in
set_option maxRecDepth 100000 in
theorem files_Same.calls (k : Nat) (A0 : Option Addr) (c0 : Nat) (l0 : List (S49)) (A1 : Option Addr) (c1 : Nat) (l1 : List (S49)) (r : Bool) (w : World) (hr0 : Kd.C k49 w A0 l0.length l0) (hc0 : l0.length ≤ c0) (hr1 : Kd.C k49 w A1 l1.length l1) (hc1 : l1.length ≤ c1) (h : files_Same.f k l0 l1 = some r) :
  Calls Tryd.prog 18 #[.slice A0 l0.length c0, .slice A1 l1.length c1] w fun e w' => e = .returned (.bool r) ∧ Drawn0 w w' := by
 have HR0 := Aside0.mk hr0
 have HC0 := Aside0.mk hc0
 clear hr0 hc0
 have HR1 := Aside0.mk hr1
 have HC1 := Aside0.mk hc1
 clear hr1 hc1
 have H : ((api_File_36.f k l0 l1).bind fun t109 => (some t109)) = some r := h
 clear h
 replace H := Option.bind_eq_some_iff.mp H
 obtain ⟨t109, A30, H⟩ := H
 try dsimp only at H
 have A3 := Aside0.mk A30
 clear A30
 obtain rfl := Option.some.inj H
 go_enter Tryd.func18, Tryd.ntmps18
 go_wp2_with (first | ((with_reducible refine gate_callee (f := 36) rfl ?_); refine gL (some 7) Tryd.func36 #[.slice A0 l0.length c0, .slice A1 l1.length c1] ?_; (with_reducible refine (api_File_36.calls k _ _ l0 _ _ l1 t109 _ ?side1 ?side2 ?side3 ?side4 A3.out).mono ?_); (case side1 => repeat (first | exact HR0.out | (with_reducible refine Kd.C_alloc ?_ _) | (with_reducible refine Kd.C_drewN ?_ _) | (with_reducible refine Kd.C_drew ?_))); (case side2 => exact HC0.out); (case side3 => repeat (first | exact HR1.out | (with_reducible refine Kd.C_alloc ?_ _) | (with_reducible refine Kd.C_drewN ?_ _) | (with_reducible refine Kd.C_drew ?_))); (case side4 => exact HC1.out); rintro e w' ⟨rfl, ⟨nd, rfl⟩⟩; refine ⟨_, rfl, ?_⟩) | (go_at_call 36; (with_reducible refine (api_File_36.calls k _ _ l0 _ _ l1 t109 _ ?side1 ?side2 ?side3 ?side4 A3.out).mono ?_); (case side1 => repeat (first | exact HR0.out | (with_reducible refine Kd.C_alloc ?_ _) | (with_reducible refine Kd.C_drewN ?_ _) | (with_reducible refine Kd.C_drew ?_))); (case side2 => exact HC0.out); (case side3 => repeat (first | exact HR1.out | (with_reducible refine Kd.C_alloc ?_ _) | (with_reducible refine Kd.C_drewN ?_ _) | (with_reducible refine Kd.C_drew ?_))); (case side4 => exact HC1.out); rintro e w' ⟨rfl, ⟨nd, rfl⟩⟩))
 go_ret
 exact ⟨by first | rfl | (simp; done) | (simp [*]; done), by repeat (first | exact Drawn0.refl _ | apply Drawn0.step)⟩
def armadaref05_Get.l0 : Nat → List (S49) → ByteArray → Int → Option (ByteArray × Bool)
 | 0, _, _, _ => none
 | k + 1, x0, x1, x6 => if x6 < (x0.length : Int) then (if 0 ≤ x6 then (if ((rd_T49 x0 x6).f0).toList = x1.toList then (some ((rd_T49 x0 x6).f1, true)) else (armadaref05_Get.l0 k x0 x1 (wrap64 (x6 + 1)))) else (none)) else (some ((⟨#[]⟩ : ByteArray), false))
def armadaref05_Get.f (k : Nat) (l0 : List (S49)) (a1 : ByteArray) : Option (ByteArray × Bool) := armadaref05_Get.l0 k l0 a1 0
theorem armadaref05_Get.mono_l : ∀ k, (∀ y0 y1 y2, LeO (armadaref05_Get.l0 k y0 y1 y2) (armadaref05_Get.l0 (k + 1) y0 y1 y2))
 | 0 => fun _ _ _ r h => by simp [armadaref05_Get.l0] at h
 | k + 1 => by
  have ih0 := armadaref05_Get.mono_l k
  ·intro y0 y1 y2
   unfold armadaref05_Get.l0
   repeat' first
   | (with_reducible exact ih0 _ _ _)
   | (with_reducible exact LeO.refl _)
   | (with_reducible exact LeO.none _)
   | (with_reducible refine LeO.ite ?_ ?_)
   | (with_reducible refine LeO.bind ?_ (fun _ => ?_))
   | exact ih0 _ _ _
   | exact LeO.none _
   | refine LeO.ite ?_ ?_
   | refine LeO.bind ?_ (fun _ => ?_)
theorem armadaref05_Get.mono : ∀ a0 a1 k, LeO (armadaref05_Get.f k a0 a1) (armadaref05_Get.f (k + 1) a0 a1) := by
 intro a0 a1 k
 have ih0 := armadaref05_Get.mono_l k
 unfold armadaref05_Get.f
 repeat' first
   | (with_reducible exact ih0 _ _ _)
   | (with_reducible exact LeO.refl _)
   | (with_reducible exact LeO.none _)
   | (with_reducible refine LeO.ite ?_ ?_)
   | (with_reducible refine LeO.bind ?_ (fun _ => ?_))
   | exact ih0 _ _ _
   | exact LeO.none _
   | refine LeO.ite ?_ ?_
   | refine LeO.bind ?_ (fun _ => ?_)
set_option maxHeartbeats 8000000 in
set_option maxRecDepth 100000 in
theorem armadaref05_Get.calls (k : Nat) (A0 : Option Addr) (c0 : Nat) (l0 : List (S49)) (a1 : ByteArray) (r1 : ByteArray) (r2 : Bool) (w : World) (hr0 : Kd.C k49 w A0 l0.length l0) (hc0 : l0.length ≤ c0) (h : armadaref05_Get.f k l0 a1 = some (r1, r2)) :
  Calls Tryd.prog 13 #[.slice A0 l0.length c0, .string a1] w fun e w' => e = .returned (.tuple #[.string r1, .bool r2]) ∧ Drawn0 w w' := by
 have HR0 := Aside0.mk hr0
 have HC0 := Aside0.mk hc0
 clear hr0 hc0
 have H : (armadaref05_Get.l0 k l0 a1 0) = some (r1, r2) := h
 clear h
 have H' := Aside0.mk H
 clear H
 go_enter Tryd.func13, Tryd.ntmps13
 go_wp2
 go_loopg [6] k (fun kq v6 w' => ∃ (x6_1 : Int), v6 = .int .i64 x6_1 ∧ Aside0 (armadaref05_Get.l0 kq l0 a1 x6_1 = some (r1, r2)) ∧ Aside0 (kq ≤ k) ∧ Drawn0 w w')
 case atStart => exact ⟨(0), eY, H', ⟨Nat.le_refl _⟩, by repeat (first | exact Drawn0.refl _ | apply Drawn0.step)⟩
 case round =>
  clear H'
  (try clear p2)
  obtain ⟨x6_1, rfl, HA, HK1, ⟨m1, rfl⟩⟩ := hrel
  cases gk with
  | zero => exact absurd HA.out (by simp [armadaref05_Get.l0])
  | succ k1 =>
   have H := HA.out
   clear HA
   simp only [armadaref05_Get.l0] at H
   by_cases c3 : x6_1 < (l0.length : Int)
   ·rw [if_pos c3] at H
    have c3b0 : decide (x6_1 < (l0.length : Int)) = true := decide_eq_true c3
    clear c3
    by_cases c4 : 0 ≤ x6_1
    ·rw [if_pos c4] at H
     have c4b0 : decide (0 ≤ x6_1) = true := decide_eq_true c4
     clear c4
     by_cases c5 : ((rd_T49 l0 x6_1).f0).toList = a1.toList
     ·rw [if_pos c5] at H
      have c5b0 : (((rd_T49 l0 x6_1).f0).toList == a1.toList) = true := beq_iff_eq.mpr c5
      have c5b1 : (((rd_T49 l0 x6_1).f0).toList != a1.toList) = false := bne_eq_false_iff_eq.mpr c5
      clear c5
      simp only [Option.some.injEq, Prod.mk.injEq] at H
      obtain ⟨rfl, rfl⟩ := H
      have p182 : 0 ≤ (x6_1 : Int) := of_decide_eq_true aS
      have q182 : x6_1 < (l0.length : Int) := of_decide_eq_true aS
      obtain ⟨ad182, e182, hx182_0, hx182_1⟩ := at_T49 HR0.out x6_1 p182 q182
      cases e182
      replace p182 := eq_true p182
      replace q182 := eq_true q182
      have p183 : 0 ≤ (x6_1 : Int) := of_decide_eq_true aS
      have q183 : x6_1 < (l0.length : Int) := of_decide_eq_true aS
      obtain ⟨ad183, e183, hx183_0, hx183_1⟩ := at_T49 HR0.out x6_1 p183 q183
      obtain rfl : ad182 = ad183 := (by injection e183)
      replace p183 := eq_true p183
      replace q183 := eq_true q183
      go_wp2
      go_ret2
      exact ⟨by first | rfl | (simp; done) | (simp [*]; done), by repeat (first | exact Drawn0.refl _ | apply Drawn0.step)⟩
     ·rw [if_neg c5] at H
      have c5b0 : (((rd_T49 l0 x6_1).f0).toList == a1.toList) = false := beq_eq_false_iff_ne.mpr c5
      have c5b1 : (((rd_T49 l0 x6_1).f0).toList != a1.toList) = true := bne_iff_ne.mpr c5
      have H' := Aside0.mk H
      clear H
      have p182 : 0 ≤ (x6_1 : Int) := of_decide_eq_true aS
      have q182 : x6_1 < (l0.length : Int) := of_decide_eq_true aS
      obtain ⟨ad182, e182, hx182_0, hx182_1⟩ := at_T49 HR0.out x6_1 p182 q182
      cases e182
      replace p182 := eq_true p182
      replace q182 := eq_true q182
      go_wp2
      go_roundg k1
      case measure => have := HK1.out; omega
      case rel => exact ⟨(wrap64 (x6_1 + 1)), eY, H', ⟨by have := HK1.out; omega⟩, by repeat (first | exact Drawn0.refl _ | apply Drawn0.step)⟩
    ·rw [if_neg c4] at H
     exact absurd H (by simp)
   ·rw [if_neg c3] at H
    have c3b0 : decide (x6_1 < (l0.length : Int)) = false := decide_eq_false c3
    clear c3
    simp only [Option.some.injEq, Prod.mk.injEq] at H
    obtain ⟨rfl, rfl⟩ := H
    go_wp2
    go_ret2
    exact ⟨by first | rfl | (simp; done) | (simp [*]; done), by repeat (first | exact Drawn0.refl _ | apply Drawn0.step)⟩
def armadaref05_Split.l0 : Nat → ByteArray → Int → List ByteArray → Int → Int → Option (List ByteArray)
 | 0, _, _, _, _, _ => none
 | k + 1, x0, x1, x5, x6, x7 => if x7 ≤ (x0.size : Int) then (if x7 = (x0.size : Int) then (if 0 ≤ x6 then (if x6 ≤ x7 then (if x5.length < 8796093022208 then (armadaref05_Split.l0 k x0 x1 (x5 ++ [x0.extract (x6 : Int).toNat (x7 : Int).toNat]) (wrap64 (x7 + 1)) (wrap64 (x7 + 1))) else (none)) else (none)) else (none)) else (if 0 ≤ x7 then (if x7 < (x0.size : Int) then (if (bt x0 x7) = x1 then (if 0 ≤ x6 then (if x6 ≤ x7 then (if x5.length < 8796093022208 then (armadaref05_Split.l0 k x0 x1 (x5 ++ [x0.extract (x6 : Int).toNat (x7 : Int).toNat]) (wrap64 (x7 + 1)) (wrap64 (x7 + 1))) else (none)) else (none)) else (none)) else (armadaref05_Split.l0 k x0 x1 x5 x6 (wrap64 (x7 + 1)))) else (none)) else (none))) else (some x5)
def armadaref05_Split.f (k : Nat) (a0 : ByteArray) (a1 : Int) : Option (List ByteArray) := armadaref05_Split.l0 k a0 a1 ([] : List ByteArray) 0 0
theorem armadaref05_Split.mono_l : ∀ k, (∀ y0 y1 y2 y3 y4, LeO (armadaref05_Split.l0 k y0 y1 y2 y3 y4) (armadaref05_Split.l0 (k + 1) y0 y1 y2 y3 y4))
 | 0 => fun _ _ _ _ _ r h => by simp [armadaref05_Split.l0] at h
 | k + 1 => by
  have ih0 := armadaref05_Split.mono_l k
  ·intro y0 y1 y2 y3 y4
   unfold armadaref05_Split.l0
   repeat' first
   | (with_reducible exact ih0 _ _ _ _ _)
   | (with_reducible exact LeO.refl _)
   | (with_reducible exact LeO.none _)
   | (with_reducible refine LeO.ite ?_ ?_)
   | (with_reducible refine LeO.bind ?_ (fun _ => ?_))
   | exact ih0 _ _ _ _ _
   | exact LeO.none _
   | refine LeO.ite ?_ ?_
   | refine LeO.bind ?_ (fun _ => ?_)
theorem armadaref05_Split.mono : ∀ a0 a1 k, LeO (armadaref05_Split.f k a0 a1) (armadaref05_Split.f (k + 1) a0 a1) := by
 intro a0 a1 k
 have ih0 := armadaref05_Split.mono_l k
 unfold armadaref05_Split.f
 repeat' first
   | (with_reducible exact ih0 _ _ _ _ _)
   | (with_reducible exact LeO.refl _)
   | (with_reducible exact LeO.none _)
   | (with_reducible refine LeO.ite ?_ ?_)
   | (with_reducible refine LeO.bind ?_ (fun _ => ?_))
   | exact ih0 _ _ _ _ _
   | exact LeO.none _
   | refine LeO.ite ?_ ?_
   | refine LeO.bind ?_ (fun _ => ?_)
set_option maxHeartbeats 8000000 in
set_option maxRecDepth 100000 in
theorem armadaref05_Split.calls (k : Nat) (a0 : ByteArray) (a1 : Int) (r : List ByteArray) (w : World) (h : armadaref05_Split.f k a0 a1 = some r) :
  Calls Tryd.prog 34 #[.string a0, .int .u8 a1] w fun e w' => ∃ v0_ : Value, e = .returned (v0_) ∧ Kd.R Kd.string 9 w' w.heap.size (fun _ => True) v0_ r ∧ Below w.heap.size w w' := by
 have HB := Aside0.mk (Below.refl w.heap.size w)
 have H : (armadaref05_Split.l0 k a0 a1 ([] : List ByteArray) 0 0) = some r := h
 clear h
 have H' := Aside0.mk H
 clear H
 go_enter Tryd.func34, Tryd.ntmps34
 go_wp2
 go_loopg [5, 6, 7] k (fun kq v5 v6 v7 w' => ∃ (x5_1 : List ByteArray) (x6_1 : Int) (x7_1 : Int), v6 = .int .i64 x6_1 ∧ v7 = .int .i64 x7_1 ∧ Aside0 (armadaref05_Split.l0 kq a0 a1 x5_1 x6_1 x7_1 = some r) ∧ Aside0 (kq ≤ k) ∧ Aside0 (Kd.R Kd.string 9 w' w.heap.size (fun _ => True) v5 x5_1) ∧ Aside0 (Below w.heap.size w w'))
 case atStart => exact ⟨(([] : List ByteArray)), (0), (0), eY, eY, H', ⟨Nat.le_refl _⟩, ⟨by first | exact Kd.R_nil _ _ _ _ _ | exact Kd.N_nil _ _ _ _ _ | exact Kd.V_nil _ _ _ _ _ | exact Kd.Q_nil _ _ _ _ _ | exact Kd.S_nil _ _ _ _ _⟩, ⟨qH⟩⟩
 case round =>
  clear H'
  (try clear p2)
  obtain ⟨x5_1, x6_1, x7_1, rfl, rfl, HA, HK1, HO_5, HB⟩ := hrel
  cases gk with
  | zero => exact absurd HA.out (by simp [armadaref05_Split.l0])
  | succ k1 =>
   have H := HA.out
   clear HA
   simp only [armadaref05_Split.l0] at H
   by_cases c3 : x7_1 ≤ (a0.size : Int)
   ·rw [if_pos c3] at H
    have c3b0 : decide (x7_1 ≤ (a0.size : Int)) = true := decide_eq_true c3
    clear c3
    by_cases c4 : x7_1 = (a0.size : Int)
    ·rw [if_pos c4] at H
     have c4b0 : (x7_1 == (a0.size : Int)) = true := beq_iff_eq.mpr c4
     have c4b1 : (x7_1 != (a0.size : Int)) = false := bne_eq_false_iff_eq.mpr c4
     clear c4
     by_cases c5 : 0 ≤ x6_1
     ·rw [if_pos c5] at H
      have c5b0 := eq_true c5
      have c5b1 : decide (0 ≤ x6_1) = true := decide_eq_true c5
      clear c5
      by_cases c6 : x6_1 ≤ x7_1
      ·rw [if_pos c6] at H
       have c6b0 := eq_true c6
       have c6b1 : decide (x6_1 ≤ x7_1) = true := decide_eq_true c6
       clear c6
       have c7b0 := eq_true (of_decide_eq_true aS : x7_1 ≤ (a0.size : Int))
       by_cases c8 : x5_1.length < 8796093022208
       ·rw [if_pos c8] at H
        have LMc8 := Aside0.mk c8
        clear c8
        obtain ⟨y184, hy184⟩ : ∃ y_ : List ByteArray, y_ = (x5_1 ++ [a0.extract (x6_1 : Int).toNat (x7_1 : Int).toNat]) := ⟨_, rfl⟩
        replace H : (armadaref05_Split.l0 k1 a0 a1 y184 (wrap64 (x7_1 + 1)) (wrap64 (x7_1 + 1))) = some r := by first | (rw [hy184]; with_reducible exact H) | (have H2_ := (Option.bind_some _ _).symm.trans H; rw [hy184]; with_reducible exact H2_) | (have H2_ := (Option.bind_some _ _).symm.trans H; with_reducible exact H2_) | with_reducible exact H | (rw [hy184]; exact H) | exact H
        have Ny184 := Aside0.mk hy184
        clear hy184
        have H' := Aside0.mk H
        clear H
        go_wp2_with (first | ((with_reducible refine gate_builtin (b := .append) (xs := #[.tmp 25, .tmp 30]) rfl ?_); at_builtin; refine Kd.R_append Kd.string (w0 := w) w.heap.size rfl (.tmp 25) (.tmp 30) 55 9 (.string ⟨#[]⟩) 16 rfl Tryd.underlying55 info9 rfl (by decide) (by omega) u5 x5_1 (a0.extract (x6_1 : Int).toNat (x7_1 : Int).toNat) [.string (a0.extract (x6_1 : Int).toNat (x7_1 : Int).toNat)] (fun _ => True) (fun _ => False) rfl rfl ?aP (fun _ hk => hk.elim) ?aF ?aO ?aB ?aS ?aL ?_; (case aP => exact rfl); (case aB => exact qH); (case aF => exact (fun _ _ => trivial)); (case aO => exact (qR HO_5.out)); (case aS => exact (below_size qH)); (case aL => have := LMc8.out; omega); intro v185 w9 ho hb hg hat; rw [← Ny184.out] at ho; have n0_ := Aside0.mk (hb); have n1_ := Aside0.mk (ho); clear HB; clear HO_5; have HB := n0_; have HO186 := n1_; clear n0_ n1_; clear ho hb hg hat))
        go_roundg k1
        case measure => have := HK1.out; omega
        case rel => exact ⟨(y184), (wrap64 (x7_1 + 1)), (wrap64 (x7_1 + 1)), eY, eY, H', ⟨by have := HK1.out; omega⟩, ⟨qR HO186.out⟩, ⟨qH⟩⟩
       ·rw [if_neg c8] at H
        exact absurd H (by simp)
      ·rw [if_neg c6] at H
       exact absurd H (by simp)
     ·rw [if_neg c5] at H
      exact absurd H (by simp)
    ·rw [if_neg c4] at H
     have c4b0 : (x7_1 == (a0.size : Int)) = false := beq_eq_false_iff_ne.mpr c4
     have c4b1 : (x7_1 != (a0.size : Int)) = true := bne_iff_ne.mpr c4
     by_cases c10 : 0 ≤ x7_1
     ·rw [if_pos c10] at H
      have c10b0 : decide (0 ≤ x7_1) = true := decide_eq_true c10
      clear c10
      by_cases c11 : x7_1 < (a0.size : Int)
      ·rw [if_pos c11] at H
       have c11b0 : decide (x7_1 < (a0.size : Int)) = true := decide_eq_true c11
       clear c11
       by_cases c13 : (bt a0 x7_1) = a1
       ·rw [if_pos c13] at H
        have c13b0 : ((bt a0 x7_1) == a1) = true := beq_iff_eq.mpr c13
        have c13b1 : ((bt a0 x7_1) != a1) = false := bne_eq_false_iff_eq.mpr c13
        clear c13
        by_cases c14 : 0 ≤ x6_1
        ·rw [if_pos c14] at H
         have c14b0 := eq_true c14
         have c14b1 : decide (0 ≤ x6_1) = true := decide_eq_true c14
         clear c14
         by_cases c15 : x6_1 ≤ x7_1
         ·rw [if_pos c15] at H
          have c15b0 := eq_true c15
          have c15b1 : decide (x6_1 ≤ x7_1) = true := decide_eq_true c15
          clear c15
          have c16b0 := eq_true (of_decide_eq_true aS : x7_1 ≤ (a0.size : Int))
          by_cases c17 : x5_1.length < 8796093022208
          ·rw [if_pos c17] at H
           have LMc17 := Aside0.mk c17
           clear c17
           obtain ⟨y187, hy187⟩ : ∃ y_ : List ByteArray, y_ = (x5_1 ++ [a0.extract (x6_1 : Int).toNat (x7_1 : Int).toNat]) := ⟨_, rfl⟩
           replace H : (armadaref05_Split.l0 k1 a0 a1 y187 (wrap64 (x7_1 + 1)) (wrap64 (x7_1 + 1))) = some r := by first | (rw [hy187]; with_reducible exact H) | (have H2_ := (Option.bind_some _ _).symm.trans H; rw [hy187]; with_reducible exact H2_) | (have H2_ := (Option.bind_some _ _).symm.trans H; with_reducible exact H2_) | with_reducible exact H | (rw [hy187]; exact H) | exact H
           have Ny187 := Aside0.mk hy187
           clear hy187
           have H' := Aside0.mk H
           clear H
           have p12 : 0 ≤ (x7_1 : Int) := of_decide_eq_true aS
           have q12 : x7_1 < (a0.size : Int) := of_decide_eq_true aS
           have hx12 := bt_at a0 x7_1
           replace p12 := eq_true p12
           replace q12 := eq_true q12
           go_wp2_with (first | ((with_reducible refine gate_builtin (b := .append) (xs := #[.tmp 25, .tmp 30]) rfl ?_); at_builtin; refine Kd.R_append Kd.string (w0 := w) w.heap.size rfl (.tmp 25) (.tmp 30) 55 9 (.string ⟨#[]⟩) 16 rfl Tryd.underlying55 info9 rfl (by decide) (by omega) u5 x5_1 (a0.extract (x6_1 : Int).toNat (x7_1 : Int).toNat) [.string (a0.extract (x6_1 : Int).toNat (x7_1 : Int).toNat)] (fun _ => True) (fun _ => False) rfl rfl ?aP (fun _ hk => hk.elim) ?aF ?aO ?aB ?aS ?aL ?_; (case aP => exact rfl); (case aB => exact qH); (case aF => exact (fun _ _ => trivial)); (case aO => exact (qR HO_5.out)); (case aS => exact (below_size qH)); (case aL => have := LMc17.out; omega); intro v188 w18 ho hb hg hat; rw [← Ny187.out] at ho; have n0_ := Aside0.mk (hb); have n1_ := Aside0.mk (ho); clear HB; clear HO_5; have HB := n0_; have HO189 := n1_; clear n0_ n1_; clear ho hb hg hat))
           go_roundg k1
           case measure => have := HK1.out; omega
           case rel => exact ⟨(y187), (wrap64 (x7_1 + 1)), (wrap64 (x7_1 + 1)), eY, eY, H', ⟨by have := HK1.out; omega⟩, ⟨qR HO189.out⟩, ⟨qH⟩⟩
          ·rw [if_neg c17] at H
           exact absurd H (by simp)
         ·rw [if_neg c15] at H
          exact absurd H (by simp)
        ·rw [if_neg c14] at H
         exact absurd H (by simp)
       ·rw [if_neg c13] at H
        have c13b0 : ((bt a0 x7_1) == a1) = false := beq_eq_false_iff_ne.mpr c13
        have c13b1 : ((bt a0 x7_1) != a1) = true := bne_iff_ne.mpr c13
        have H' := Aside0.mk H
        clear H
        have p12 : 0 ≤ (x7_1 : Int) := of_decide_eq_true aS
        have q12 : x7_1 < (a0.size : Int) := of_decide_eq_true aS
        have hx12 := bt_at a0 x7_1
        replace p12 := eq_true p12
        replace q12 := eq_true q12
        go_wp2
        go_roundg k1
        case measure => have := HK1.out; omega
        case rel => exact ⟨(x5_1), (x6_1), (wrap64 (x7_1 + 1)), eY, eY, H', ⟨by have := HK1.out; omega⟩, ⟨qR HO_5.out⟩, ⟨qH⟩⟩
      ·rw [if_neg c11] at H
       exact absurd H (by simp)
     ·rw [if_neg c10] at H
      exact absurd H (by simp)
   ·rw [if_neg c3] at H
    have c3b0 : decide (x7_1 ≤ (a0.size : Int)) = false := decide_eq_false c3
    clear c3
    obtain rfl := Option.some.inj H
    go_wp2
    go_ret
    exact ⟨_, eX, qR HO_5.out, qH⟩
def armadaref05_part.l0 : Nat → ByteArray → Int → Option (Bool)
 | 0, _, _ => none
 | k + 1, x0, x3 => if x3 < (x0.size : Int) then (if 0 ≤ x3 then (if (bt x0 x3) ≥ 97 then (if (bt x0 x3) ≤ 122 then (armadaref05_part.l0 k x0 (wrap64 (x3 + 1))) else (if (bt x0 x3) ≥ 65 then (if (bt x0 x3) ≤ 90 then (armadaref05_part.l0 k x0 (wrap64 (x3 + 1))) else (if (bt x0 x3) ≥ 48 then (if ((bt x0 x3) ≤ 57) then (armadaref05_part.l0 k x0 (wrap64 (x3 + 1))) else (if (bt x0 x3) = 45 then (armadaref05_part.l0 k x0 (wrap64 (x3 + 1))) else (if (bt x0 x3) = 95 then (armadaref05_part.l0 k x0 (wrap64 (x3 + 1))) else (if (bt x0 x3) = 46 then (armadaref05_part.l0 k x0 (wrap64 (x3 + 1))) else (some false))))) else (if (bt x0 x3) = 45 then (armadaref05_part.l0 k x0 (wrap64 (x3 + 1))) else (if (bt x0 x3) = 95 then (armadaref05_part.l0 k x0 (wrap64 (x3 + 1))) else (if (bt x0 x3) = 46 then (armadaref05_part.l0 k x0 (wrap64 (x3 + 1))) else (some false)))))) else (if (bt x0 x3) ≥ 48 then (if ((bt x0 x3) ≤ 57) then (armadaref05_part.l0 k x0 (wrap64 (x3 + 1))) else (if (bt x0 x3) = 45 then (armadaref05_part.l0 k x0 (wrap64 (x3 + 1))) else (if (bt x0 x3) = 95 then (armadaref05_part.l0 k x0 (wrap64 (x3 + 1))) else (if (bt x0 x3) = 46 then (armadaref05_part.l0 k x0 (wrap64 (x3 + 1))) else (some false))))) else (if (bt x0 x3) = 45 then (armadaref05_part.l0 k x0 (wrap64 (x3 + 1))) else (if (bt x0 x3) = 95 then (armadaref05_part.l0 k x0 (wrap64 (x3 + 1))) else (if (bt x0 x3) = 46 then (armadaref05_part.l0 k x0 (wrap64 (x3 + 1))) else (some false))))))) else (if (bt x0 x3) ≥ 65 then (if (bt x0 x3) ≤ 90 then (armadaref05_part.l0 k x0 (wrap64 (x3 + 1))) else (if (bt x0 x3) ≥ 48 then (if ((bt x0 x3) ≤ 57) then (armadaref05_part.l0 k x0 (wrap64 (x3 + 1))) else (if (bt x0 x3) = 45 then (armadaref05_part.l0 k x0 (wrap64 (x3 + 1))) else (if (bt x0 x3) = 95 then (armadaref05_part.l0 k x0 (wrap64 (x3 + 1))) else (if (bt x0 x3) = 46 then (armadaref05_part.l0 k x0 (wrap64 (x3 + 1))) else (some false))))) else (if (bt x0 x3) = 45 then (armadaref05_part.l0 k x0 (wrap64 (x3 + 1))) else (if (bt x0 x3) = 95 then (armadaref05_part.l0 k x0 (wrap64 (x3 + 1))) else (if (bt x0 x3) = 46 then (armadaref05_part.l0 k x0 (wrap64 (x3 + 1))) else (some false)))))) else (if (bt x0 x3) ≥ 48 then (if ((bt x0 x3) ≤ 57) then (armadaref05_part.l0 k x0 (wrap64 (x3 + 1))) else (if (bt x0 x3) = 45 then (armadaref05_part.l0 k x0 (wrap64 (x3 + 1))) else (if (bt x0 x3) = 95 then (armadaref05_part.l0 k x0 (wrap64 (x3 + 1))) else (if (bt x0 x3) = 46 then (armadaref05_part.l0 k x0 (wrap64 (x3 + 1))) else (some false))))) else (if (bt x0 x3) = 45 then (armadaref05_part.l0 k x0 (wrap64 (x3 + 1))) else (if (bt x0 x3) = 95 then (armadaref05_part.l0 k x0 (wrap64 (x3 + 1))) else (if (bt x0 x3) = 46 then (armadaref05_part.l0 k x0 (wrap64 (x3 + 1))) else (some false))))))) else (none)) else (if x0.toList = ([] : List UInt8) then (some false) else (if x0.toList = ([46] : List UInt8) then (some false) else (some (x0.toList != ([46, 46] : List UInt8)))))
def armadaref05_part.f (k : Nat) (a0 : ByteArray) : Option (Bool) := armadaref05_part.l0 k a0 0
theorem armadaref05_part.mono_l : ∀ k, (∀ y0 y1, LeO (armadaref05_part.l0 k y0 y1) (armadaref05_part.l0 (k + 1) y0 y1))
 | 0 => fun _ _ r h => by simp [armadaref05_part.l0] at h
 | k + 1 => by
  have ih0 := armadaref05_part.mono_l k
  ·intro y0 y1
   unfold armadaref05_part.l0
   repeat' first
   | (with_reducible exact ih0 _ _)
   | (with_reducible exact LeO.refl _)
   | (with_reducible exact LeO.none _)
   | (with_reducible refine LeO.ite ?_ ?_)
   | (with_reducible refine LeO.bind ?_ (fun _ => ?_))
   | exact ih0 _ _
   | exact LeO.none _
   | refine LeO.ite ?_ ?_
   | refine LeO.bind ?_ (fun _ => ?_)
theorem armadaref05_part.mono : ∀ a0 k, LeO (armadaref05_part.f k a0) (armadaref05_part.f (k + 1) a0) := by
 intro a0 k
 have ih0 := armadaref05_part.mono_l k
 unfold armadaref05_part.f
 repeat' first
   | (with_reducible exact ih0 _ _)
   | (with_reducible exact LeO.refl _)
   | (with_reducible exact LeO.none _)
   | (with_reducible refine LeO.ite ?_ ?_)
   | (with_reducible refine LeO.bind ?_ (fun _ => ?_))
   | exact ih0 _ _
   | exact LeO.none _
   | refine LeO.ite ?_ ?_
   | refine LeO.bind ?_ (fun _ => ?_)
set_option maxHeartbeats 8000000 in
set_option maxRecDepth 100000 in
theorem armadaref05_part.calls (k : Nat) (a0 : ByteArray) (r : Bool) (w : World) (h : armadaref05_part.f k a0 = some r) :
  Calls Tryd.prog 35 #[.string a0] w fun e w' => e = .returned (.bool r) ∧ Drawn0 w w' := by
 have H : (armadaref05_part.l0 k a0 0) = some r := h
 clear h
 have H' := Aside0.mk H
 clear H
 go_enter Tryd.func35, Tryd.ntmps35
 go_wp2
 go_loopg [3] k (fun kq v3 w' => ∃ (x3_1 : Int), v3 = .int .i64 x3_1 ∧ Aside0 (armadaref05_part.l0 kq a0 x3_1 = some r) ∧ Aside0 (kq ≤ k) ∧ Drawn0 w w')
 case atStart => exact ⟨(0), eY, H', ⟨Nat.le_refl _⟩, by repeat (first | exact Drawn0.refl _ | apply Drawn0.step)⟩
 case round =>
  clear H'
  obtain ⟨x3_1, rfl, HA, HK1, ⟨m1, rfl⟩⟩ := hrel
  cases gk with
  | zero => exact absurd HA.out (by simp [armadaref05_part.l0])
  | succ k1 =>
   have H := HA.out
   clear HA
   simp only [armadaref05_part.l0] at H
   by_cases c2 : x3_1 < (a0.size : Int)
   ·rw [if_pos c2] at H
    have c2b0 : decide (x3_1 < (a0.size : Int)) = true := decide_eq_true c2
    clear c2
    by_cases c3 : 0 ≤ x3_1
    ·rw [if_pos c3] at H
     have c3b0 : decide (0 ≤ x3_1) = true := decide_eq_true c3
     clear c3
     by_cases c5 : (bt a0 x3_1) ≥ 97
     ·rw [if_pos c5] at H
      have c5b0 : decide (97 ≤ (bt a0 x3_1)) = true := decide_eq_true c5
      clear c5
      by_cases c6 : (bt a0 x3_1) ≤ 122
      ·rw [if_pos c6] at H
       have c6b0 : decide ((bt a0 x3_1) ≤ 122) = true := decide_eq_true c6
       clear c6
       have H' := Aside0.mk H
       clear H
       have p4 : 0 ≤ (x3_1 : Int) := of_decide_eq_true aS
       have q4 : x3_1 < (a0.size : Int) := of_decide_eq_true aS
       have hx4 := bt_at a0 x3_1
       replace p4 := eq_true p4
       replace q4 := eq_true q4
       go_wp2
       go_roundg k1
       case measure => have := HK1.out; omega
       case rel => exact ⟨(wrap64 (x3_1 + 1)), eY, H', ⟨by have := HK1.out; omega⟩, by repeat (first | exact Drawn0.refl _ | apply Drawn0.step)⟩
      ·rw [if_neg c6] at H
       have c6b0 : decide ((bt a0 x3_1) ≤ 122) = false := decide_eq_false c6
       clear c6
       by_cases c7 : (bt a0 x3_1) ≥ 65
       ·rw [if_pos c7] at H
        have c7b0 : decide (65 ≤ (bt a0 x3_1)) = true := decide_eq_true c7
        clear c7
        by_cases c8 : (bt a0 x3_1) ≤ 90
        ·rw [if_pos c8] at H
         have c8b0 : decide ((bt a0 x3_1) ≤ 90) = true := decide_eq_true c8
         clear c8
         have H' := Aside0.mk H
         clear H
         have p4 : 0 ≤ (x3_1 : Int) := of_decide_eq_true aS
         have q4 : x3_1 < (a0.size : Int) := of_decide_eq_true aS
         have hx4 := bt_at a0 x3_1
         replace p4 := eq_true p4
         replace q4 := eq_true q4
         go_wp2
         go_roundg k1
         case measure => have := HK1.out; omega
         case rel => exact ⟨(wrap64 (x3_1 + 1)), eY, H', ⟨by have := HK1.out; omega⟩, by repeat (first | exact Drawn0.refl _ | apply Drawn0.step)⟩
        ·rw [if_neg c8] at H
         have c8b0 : decide ((bt a0 x3_1) ≤ 90) = false := decide_eq_false c8
         clear c8
         by_cases c9 : (bt a0 x3_1) ≥ 48
         ·rw [if_pos c9] at H
          have c9b0 : decide (48 ≤ (bt a0 x3_1)) = true := decide_eq_true c9
          clear c9
          by_cases c10 : ((bt a0 x3_1) ≤ 57)
          ·rw [if_pos c10] at H
           have c10b0 : decide ((bt a0 x3_1) ≤ 57) = true := decide_eq_true c10
           clear c10
           have H' := Aside0.mk H
           clear H
           have p4 : 0 ≤ (x3_1 : Int) := of_decide_eq_true aS
           have q4 : x3_1 < (a0.size : Int) := of_decide_eq_true aS
           have hx4 := bt_at a0 x3_1
           replace p4 := eq_true p4
           replace q4 := eq_true q4
           go_wp2
           go_roundg k1
           case measure => have := HK1.out; omega
           case rel => exact ⟨(wrap64 (x3_1 + 1)), eY, H', ⟨by have := HK1.out; omega⟩, by repeat (first | exact Drawn0.refl _ | apply Drawn0.step)⟩
          ·rw [if_neg c10] at H
           have c10b0 : decide ((bt a0 x3_1) ≤ 57) = false := decide_eq_false c10
           clear c10
           by_cases c11 : (bt a0 x3_1) = 45
           ·rw [if_pos c11] at H
            have c11b0 : ((bt a0 x3_1) == 45) = true := beq_iff_eq.mpr c11
            have c11b1 : ((bt a0 x3_1) != 45) = false := bne_eq_false_iff_eq.mpr c11
            clear c11
            have H' := Aside0.mk H
            clear H
            have p4 : 0 ≤ (x3_1 : Int) := of_decide_eq_true aS
            have q4 : x3_1 < (a0.size : Int) := of_decide_eq_true aS
            have hx4 := bt_at a0 x3_1
            replace p4 := eq_true p4
            replace q4 := eq_true q4
            go_wp2
            go_roundg k1
            case measure => have := HK1.out; omega
            case rel => exact ⟨(wrap64 (x3_1 + 1)), eY, H', ⟨by have := HK1.out; omega⟩, by repeat (first | exact Drawn0.refl _ | apply Drawn0.step)⟩
           ·rw [if_neg c11] at H
            have c11b0 : ((bt a0 x3_1) == 45) = false := beq_eq_false_iff_ne.mpr c11
            have c11b1 : ((bt a0 x3_1) != 45) = true := bne_iff_ne.mpr c11
            by_cases c12 : (bt a0 x3_1) = 95
            ·rw [if_pos c12] at H
             have c12b0 : ((bt a0 x3_1) == 95) = true := beq_iff_eq.mpr c12
             have c12b1 : ((bt a0 x3_1) != 95) = false := bne_eq_false_iff_eq.mpr c12
             clear c12
             have H' := Aside0.mk H
             clear H
             have p4 : 0 ≤ (x3_1 : Int) := of_decide_eq_true aS
             have q4 : x3_1 < (a0.size : Int) := of_decide_eq_true aS
             have hx4 := bt_at a0 x3_1
             replace p4 := eq_true p4
             replace q4 := eq_true q4
             go_wp2
             go_roundg k1
             case measure => have := HK1.out; omega
             case rel => exact ⟨(wrap64 (x3_1 + 1)), eY, H', ⟨by have := HK1.out; omega⟩, by repeat (first | exact Drawn0.refl _ | apply Drawn0.step)⟩
            ·rw [if_neg c12] at H
             have c12b0 : ((bt a0 x3_1) == 95) = false := beq_eq_false_iff_ne.mpr c12
             have c12b1 : ((bt a0 x3_1) != 95) = true := bne_iff_ne.mpr c12
             by_cases c13 : (bt a0 x3_1) = 46
             ·rw [if_pos c13] at H
              have c13b0 : ((bt a0 x3_1) == 46) = true := beq_iff_eq.mpr c13
              have c13b1 : ((bt a0 x3_1) != 46) = false := bne_eq_false_iff_eq.mpr c13
              clear c13
              have H' := Aside0.mk H
              clear H
              have p4 : 0 ≤ (x3_1 : Int) := of_decide_eq_true aS
              have q4 : x3_1 < (a0.size : Int) := of_decide_eq_true aS
              have hx4 := bt_at a0 x3_1
              replace p4 := eq_true p4
              replace q4 := eq_true q4
              go_wp2
              go_roundg k1
              case measure => have := HK1.out; omega
              case rel => exact ⟨(wrap64 (x3_1 + 1)), eY, H', ⟨by have := HK1.out; omega⟩, by repeat (first | exact Drawn0.refl _ | apply Drawn0.step)⟩
             ·rw [if_neg c13] at H
              have c13b0 : ((bt a0 x3_1) == 46) = false := beq_eq_false_iff_ne.mpr c13
              have c13b1 : ((bt a0 x3_1) != 46) = true := bne_iff_ne.mpr c13
              obtain rfl := Option.some.inj H
              have p4 : 0 ≤ (x3_1 : Int) := of_decide_eq_true aS
              have q4 : x3_1 < (a0.size : Int) := of_decide_eq_true aS
              have hx4 := bt_at a0 x3_1
              replace p4 := eq_true p4
              replace q4 := eq_true q4
              go_wp2
              go_ret
              exact ⟨by first | rfl | (simp; done) | (simp [*]; done), by repeat (first | exact Drawn0.refl _ | apply Drawn0.step)⟩
         ·rw [if_neg c9] at H
          have c9b0 : decide (48 ≤ (bt a0 x3_1)) = false := decide_eq_false c9
          clear c9
          by_cases c14 : (bt a0 x3_1) = 45
          ·rw [if_pos c14] at H
           have c14b0 : ((bt a0 x3_1) == 45) = true := beq_iff_eq.mpr c14
           have c14b1 : ((bt a0 x3_1) != 45) = false := bne_eq_false_iff_eq.mpr c14
           clear c14
           have H' := Aside0.mk H
           clear H
           have p4 : 0 ≤ (x3_1 : Int) := of_decide_eq_true aS
           have q4 : x3_1 < (a0.size : Int) := of_decide_eq_true aS
           have hx4 := bt_at a0 x3_1
           replace p4 := eq_true p4
           replace q4 := eq_true q4
           go_wp2
           go_roundg k1
           case measure => have := HK1.out; omega
           case rel => exact ⟨(wrap64 (x3_1 + 1)), eY, H', ⟨by have := HK1.out; omega⟩, by repeat (first | exact Drawn0.refl _ | apply Drawn0.step)⟩
          ·rw [if_neg c14] at H
           have c14b0 : ((bt a0 x3_1) == 45) = false := beq_eq_false_iff_ne.mpr c14
           have c14b1 : ((bt a0 x3_1) != 45) = true := bne_iff_ne.mpr c14
           by_cases c15 : (bt a0 x3_1) = 95
           ·rw [if_pos c15] at H
            have c15b0 : ((bt a0 x3_1) == 95) = true := beq_iff_eq.mpr c15
            have c15b1 : ((bt a0 x3_1) != 95) = false := bne_eq_false_iff_eq.mpr c15
            clear c15
            have H' := Aside0.mk H
            clear H
            have p4 : 0 ≤ (x3_1 : Int) := of_decide_eq_true aS
            have q4 : x3_1 < (a0.size : Int) := of_decide_eq_true aS
            have hx4 := bt_at a0 x3_1
            replace p4 := eq_true p4
            replace q4 := eq_true q4
            go_wp2
            go_roundg k1
            case measure => have := HK1.out; omega
            case rel => exact ⟨(wrap64 (x3_1 + 1)), eY, H', ⟨by have := HK1.out; omega⟩, by repeat (first | exact Drawn0.refl _ | apply Drawn0.step)⟩
           ·rw [if_neg c15] at H
            have c15b0 : ((bt a0 x3_1) == 95) = false := beq_eq_false_iff_ne.mpr c15
            have c15b1 : ((bt a0 x3_1) != 95) = true := bne_iff_ne.mpr c15
            by_cases c16 : (bt a0 x3_1) = 46
            ·rw [if_pos c16] at H
             have c16b0 : ((bt a0 x3_1) == 46) = true := beq_iff_eq.mpr c16
             have c16b1 : ((bt a0 x3_1) != 46) = false := bne_eq_false_iff_eq.mpr c16
             clear c16
             have H' := Aside0.mk H
             clear H
             have p4 : 0 ≤ (x3_1 : Int) := of_decide_eq_true aS
             have q4 : x3_1 < (a0.size : Int) := of_decide_eq_true aS
             have hx4 := bt_at a0 x3_1
             replace p4 := eq_true p4
             replace q4 := eq_true q4
             go_wp2
             go_roundg k1
             case measure => have := HK1.out; omega
             case rel => exact ⟨(wrap64 (x3_1 + 1)), eY, H', ⟨by have := HK1.out; omega⟩, by repeat (first | exact Drawn0.refl _ | apply Drawn0.step)⟩
            ·rw [if_neg c16] at H
             have c16b0 : ((bt a0 x3_1) == 46) = false := beq_eq_false_iff_ne.mpr c16
             have c16b1 : ((bt a0 x3_1) != 46) = true := bne_iff_ne.mpr c16
             obtain rfl := Option.some.inj H
             have p4 : 0 ≤ (x3_1 : Int) := of_decide_eq_true aS
             have q4 : x3_1 < (a0.size : Int) := of_decide_eq_true aS
             have hx4 := bt_at a0 x3_1
             replace p4 := eq_true p4
             replace q4 := eq_true q4
             go_wp2
             go_ret
             exact ⟨by first | rfl | (simp; done) | (simp [*]; done), by repeat (first | exact Drawn0.refl _ | apply Drawn0.step)⟩
       ·rw [if_neg c7] at H
        have c7b0 : decide (65 ≤ (bt a0 x3_1)) = false := decide_eq_false c7
        clear c7
        by_cases c17 : (bt a0 x3_1) ≥ 48
        ·rw [if_pos c17] at H
         have c17b0 : decide (48 ≤ (bt a0 x3_1)) = true := decide_eq_true c17
         clear c17
         by_cases c18 : ((bt a0 x3_1) ≤ 57)
         ·rw [if_pos c18] at H
          have c18b0 : decide ((bt a0 x3_1) ≤ 57) = true := decide_eq_true c18
          clear c18
          have H' := Aside0.mk H
          clear H
          have p4 : 0 ≤ (x3_1 : Int) := of_decide_eq_true aS
          have q4 : x3_1 < (a0.size : Int) := of_decide_eq_true aS
          have hx4 := bt_at a0 x3_1
          replace p4 := eq_true p4
          replace q4 := eq_true q4
          go_wp2
          go_roundg k1
          case measure => have := HK1.out; omega
          case rel => exact ⟨(wrap64 (x3_1 + 1)), eY, H', ⟨by have := HK1.out; omega⟩, by repeat (first | exact Drawn0.refl _ | apply Drawn0.step)⟩
         ·rw [if_neg c18] at H
          have c18b0 : decide ((bt a0 x3_1) ≤ 57) = false := decide_eq_false c18
          clear c18
          by_cases c19 : (bt a0 x3_1) = 45
          ·rw [if_pos c19] at H
           have c19b0 : ((bt a0 x3_1) == 45) = true := beq_iff_eq.mpr c19
           have c19b1 : ((bt a0 x3_1) != 45) = false := bne_eq_false_iff_eq.mpr c19
           clear c19
           have H' := Aside0.mk H
           clear H
           have p4 : 0 ≤ (x3_1 : Int) := of_decide_eq_true aS
           have q4 : x3_1 < (a0.size : Int) := of_decide_eq_true aS
           have hx4 := bt_at a0 x3_1
           replace p4 := eq_true p4
           replace q4 := eq_true q4
           go_wp2
           go_roundg k1
           case measure => have := HK1.out; omega
           case rel => exact ⟨(wrap64 (x3_1 + 1)), eY, H', ⟨by have := HK1.out; omega⟩, by repeat (first | exact Drawn0.refl _ | apply Drawn0.step)⟩
          ·rw [if_neg c19] at H
           have c19b0 : ((bt a0 x3_1) == 45) = false := beq_eq_false_iff_ne.mpr c19
           have c19b1 : ((bt a0 x3_1) != 45) = true := bne_iff_ne.mpr c19
           by_cases c20 : (bt a0 x3_1) = 95
           ·rw [if_pos c20] at H
            have c20b0 : ((bt a0 x3_1) == 95) = true := beq_iff_eq.mpr c20
            have c20b1 : ((bt a0 x3_1) != 95) = false := bne_eq_false_iff_eq.mpr c20
            clear c20
            have H' := Aside0.mk H
            clear H
            have p4 : 0 ≤ (x3_1 : Int) := of_decide_eq_true aS
            have q4 : x3_1 < (a0.size : Int) := of_decide_eq_true aS
            have hx4 := bt_at a0 x3_1
            replace p4 := eq_true p4
            replace q4 := eq_true q4
            go_wp2
            go_roundg k1
            case measure => have := HK1.out; omega
            case rel => exact ⟨(wrap64 (x3_1 + 1)), eY, H', ⟨by have := HK1.out; omega⟩, by repeat (first | exact Drawn0.refl _ | apply Drawn0.step)⟩
           ·rw [if_neg c20] at H
            have c20b0 : ((bt a0 x3_1) == 95) = false := beq_eq_false_iff_ne.mpr c20
            have c20b1 : ((bt a0 x3_1) != 95) = true := bne_iff_ne.mpr c20
            by_cases c21 : (bt a0 x3_1) = 46
            ·rw [if_pos c21] at H
             have c21b0 : ((bt a0 x3_1) == 46) = true := beq_iff_eq.mpr c21
             have c21b1 : ((bt a0 x3_1) != 46) = false := bne_eq_false_iff_eq.mpr c21
             clear c21
             have H' := Aside0.mk H
             clear H
             have p4 : 0 ≤ (x3_1 : Int) := of_decide_eq_true aS
             have q4 : x3_1 < (a0.size : Int) := of_decide_eq_true aS
             have hx4 := bt_at a0 x3_1
             replace p4 := eq_true p4
             replace q4 := eq_true q4
             go_wp2
             go_roundg k1
             case measure => have := HK1.out; omega
             case rel => exact ⟨(wrap64 (x3_1 + 1)), eY, H', ⟨by have := HK1.out; omega⟩, by repeat (first | exact Drawn0.refl _ | apply Drawn0.step)⟩
            ·rw [if_neg c21] at H
             have c21b0 : ((bt a0 x3_1) == 46) = false := beq_eq_false_iff_ne.mpr c21
             have c21b1 : ((bt a0 x3_1) != 46) = true := bne_iff_ne.mpr c21
             obtain rfl := Option.some.inj H
             have p4 : 0 ≤ (x3_1 : Int) := of_decide_eq_true aS
             have q4 : x3_1 < (a0.size : Int) := of_decide_eq_true aS
             have hx4 := bt_at a0 x3_1
             replace p4 := eq_true p4
             replace q4 := eq_true q4
             go_wp2
             go_ret
             exact ⟨by first | rfl | (simp; done) | (simp [*]; done), by repeat (first | exact Drawn0.refl _ | apply Drawn0.step)⟩
        ·rw [if_neg c17] at H
         have c17b0 : decide (48 ≤ (bt a0 x3_1)) = false := decide_eq_false c17
         clear c17
         by_cases c22 : (bt a0 x3_1) = 45
         ·rw [if_pos c22] at H
          have c22b0 : ((bt a0 x3_1) == 45) = true := beq_iff_eq.mpr c22
          have c22b1 : ((bt a0 x3_1) != 45) = false := bne_eq_false_iff_eq.mpr c22
          clear c22
          have H' := Aside0.mk H
          clear H
          have p4 : 0 ≤ (x3_1 : Int) := of_decide_eq_true aS
          have q4 : x3_1 < (a0.size : Int) := of_decide_eq_true aS
          have hx4 := bt_at a0 x3_1
          replace p4 := eq_true p4
          replace q4 := eq_true q4
          go_wp2
          go_roundg k1
          case measure => have := HK1.out; omega
          case rel => exact ⟨(wrap64 (x3_1 + 1)), eY, H', ⟨by have := HK1.out; omega⟩, by repeat (first | exact Drawn0.refl _ | apply Drawn0.step)⟩
         ·rw [if_neg c22] at H
          have c22b0 : ((bt a0 x3_1) == 45) = false := beq_eq_false_iff_ne.mpr c22
          have c22b1 : ((bt a0 x3_1) != 45) = true := bne_iff_ne.mpr c22
          by_cases c23 : (bt a0 x3_1) = 95
          ·rw [if_pos c23] at H
           have c23b0 : ((bt a0 x3_1) == 95) = true := beq_iff_eq.mpr c23
           have c23b1 : ((bt a0 x3_1) != 95) = false := bne_eq_false_iff_eq.mpr c23
           clear c23
           have H' := Aside0.mk H
           clear H
           have p4 : 0 ≤ (x3_1 : Int) := of_decide_eq_true aS
           have q4 : x3_1 < (a0.size : Int) := of_decide_eq_true aS
           have hx4 := bt_at a0 x3_1
           replace p4 := eq_true p4
           replace q4 := eq_true q4
           go_wp2
           go_roundg k1
           case measure => have := HK1.out; omega
           case rel => exact ⟨(wrap64 (x3_1 + 1)), eY, H', ⟨by have := HK1.out; omega⟩, by repeat (first | exact Drawn0.refl _ | apply Drawn0.step)⟩
          ·rw [if_neg c23] at H
           have c23b0 : ((bt a0 x3_1) == 95) = false := beq_eq_false_iff_ne.mpr c23
           have c23b1 : ((bt a0 x3_1) != 95) = true := bne_iff_ne.mpr c23
           by_cases c24 : (bt a0 x3_1) = 46
           ·rw [if_pos c24] at H
            have c24b0 : ((bt a0 x3_1) == 46) = true := beq_iff_eq.mpr c24
            have c24b1 : ((bt a0 x3_1) != 46) = false := bne_eq_false_iff_eq.mpr c24
            clear c24
            have H' := Aside0.mk H
            clear H
            have p4 : 0 ≤ (x3_1 : Int) := of_decide_eq_true aS
            have q4 : x3_1 < (a0.size : Int) := of_decide_eq_true aS
            have hx4 := bt_at a0 x3_1
            replace p4 := eq_true p4
            replace q4 := eq_true q4
            go_wp2
            go_roundg k1
            case measure => have := HK1.out; omega
            case rel => exact ⟨(wrap64 (x3_1 + 1)), eY, H', ⟨by have := HK1.out; omega⟩, by repeat (first | exact Drawn0.refl _ | apply Drawn0.step)⟩
           ·rw [if_neg c24] at H
            have c24b0 : ((bt a0 x3_1) == 46) = false := beq_eq_false_iff_ne.mpr c24
            have c24b1 : ((bt a0 x3_1) != 46) = true := bne_iff_ne.mpr c24
            obtain rfl := Option.some.inj H
            have p4 : 0 ≤ (x3_1 : Int) := of_decide_eq_true aS
            have q4 : x3_1 < (a0.size : Int) := of_decide_eq_true aS
            have hx4 := bt_at a0 x3_1
            replace p4 := eq_true p4
            replace q4 := eq_true q4
            go_wp2
            go_ret
            exact ⟨by first | rfl | (simp; done) | (simp [*]; done), by repeat (first | exact Drawn0.refl _ | apply Drawn0.step)⟩
     ·rw [if_neg c5] at H
      have c5b0 : decide (97 ≤ (bt a0 x3_1)) = false := decide_eq_false c5
      clear c5
      by_cases c25 : (bt a0 x3_1) ≥ 65
      ·rw [if_pos c25] at H
       have c25b0 : decide (65 ≤ (bt a0 x3_1)) = true := decide_eq_true c25
       clear c25
       by_cases c26 : (bt a0 x3_1) ≤ 90
       ·rw [if_pos c26] at H
        have c26b0 : decide ((bt a0 x3_1) ≤ 90) = true := decide_eq_true c26
        clear c26
        have H' := Aside0.mk H
        clear H
        have p4 : 0 ≤ (x3_1 : Int) := of_decide_eq_true aS
        have q4 : x3_1 < (a0.size : Int) := of_decide_eq_true aS
        have hx4 := bt_at a0 x3_1
        replace p4 := eq_true p4
        replace q4 := eq_true q4
        go_wp2
        go_roundg k1
        case measure => have := HK1.out; omega
        case rel => exact ⟨(wrap64 (x3_1 + 1)), eY, H', ⟨by have := HK1.out; omega⟩, by repeat (first | exact Drawn0.refl _ | apply Drawn0.step)⟩
       ·rw [if_neg c26] at H
        have c26b0 : decide ((bt a0 x3_1) ≤ 90) = false := decide_eq_false c26
        clear c26
        by_cases c27 : (bt a0 x3_1) ≥ 48
        ·rw [if_pos c27] at H
         have c27b0 : decide (48 ≤ (bt a0 x3_1)) = true := decide_eq_true c27
         clear c27
         by_cases c28 : ((bt a0 x3_1) ≤ 57)
         ·rw [if_pos c28] at H
          have c28b0 : decide ((bt a0 x3_1) ≤ 57) = true := decide_eq_true c28
          clear c28
          have H' := Aside0.mk H
          clear H
          have p4 : 0 ≤ (x3_1 : Int) := of_decide_eq_true aS
          have q4 : x3_1 < (a0.size : Int) := of_decide_eq_true aS
          have hx4 := bt_at a0 x3_1
          replace p4 := eq_true p4
          replace q4 := eq_true q4
          go_wp2
          go_roundg k1
          case measure => have := HK1.out; omega
          case rel => exact ⟨(wrap64 (x3_1 + 1)), eY, H', ⟨by have := HK1.out; omega⟩, by repeat (first | exact Drawn0.refl _ | apply Drawn0.step)⟩
         ·rw [if_neg c28] at H
          have c28b0 : decide ((bt a0 x3_1) ≤ 57) = false := decide_eq_false c28
          clear c28
          by_cases c29 : (bt a0 x3_1) = 45
          ·rw [if_pos c29] at H
           have c29b0 : ((bt a0 x3_1) == 45) = true := beq_iff_eq.mpr c29
           have c29b1 : ((bt a0 x3_1) != 45) = false := bne_eq_false_iff_eq.mpr c29
           clear c29
           have H' := Aside0.mk H
           clear H
           have p4 : 0 ≤ (x3_1 : Int) := of_decide_eq_true aS
           have q4 : x3_1 < (a0.size : Int) := of_decide_eq_true aS
           have hx4 := bt_at a0 x3_1
           replace p4 := eq_true p4
           replace q4 := eq_true q4
           go_wp2
           go_roundg k1
           case measure => have := HK1.out; omega
           case rel => exact ⟨(wrap64 (x3_1 + 1)), eY, H', ⟨by have := HK1.out; omega⟩, by repeat (first | exact Drawn0.refl _ | apply Drawn0.step)⟩
          ·rw [if_neg c29] at H
           have c29b0 : ((bt a0 x3_1) == 45) = false := beq_eq_false_iff_ne.mpr c29
           have c29b1 : ((bt a0 x3_1) != 45) = true := bne_iff_ne.mpr c29
           by_cases c30 : (bt a0 x3_1) = 95
           ·rw [if_pos c30] at H
            have c30b0 : ((bt a0 x3_1) == 95) = true := beq_iff_eq.mpr c30
            have c30b1 : ((bt a0 x3_1) != 95) = false := bne_eq_false_iff_eq.mpr c30
            clear c30
            have H' := Aside0.mk H
            clear H
            have p4 : 0 ≤ (x3_1 : Int) := of_decide_eq_true aS
            have q4 : x3_1 < (a0.size : Int) := of_decide_eq_true aS
            have hx4 := bt_at a0 x3_1
            replace p4 := eq_true p4
            replace q4 := eq_true q4
            go_wp2
            go_roundg k1
            case measure => have := HK1.out; omega
            case rel => exact ⟨(wrap64 (x3_1 + 1)), eY, H', ⟨by have := HK1.out; omega⟩, by repeat (first | exact Drawn0.refl _ | apply Drawn0.step)⟩
           ·rw [if_neg c30] at H
            have c30b0 : ((bt a0 x3_1) == 95) = false := beq_eq_false_iff_ne.mpr c30
            have c30b1 : ((bt a0 x3_1) != 95) = true := bne_iff_ne.mpr c30
            by_cases c31 : (bt a0 x3_1) = 46
            ·rw [if_pos c31] at H
             have c31b0 : ((bt a0 x3_1) == 46) = true := beq_iff_eq.mpr c31
             have c31b1 : ((bt a0 x3_1) != 46) = false := bne_eq_false_iff_eq.mpr c31
             clear c31
             have H' := Aside0.mk H
             clear H
             have p4 : 0 ≤ (x3_1 : Int) := of_decide_eq_true aS
             have q4 : x3_1 < (a0.size : Int) := of_decide_eq_true aS
             have hx4 := bt_at a0 x3_1
             replace p4 := eq_true p4
             replace q4 := eq_true q4
             go_wp2
             go_roundg k1
             case measure => have := HK1.out; omega
             case rel => exact ⟨(wrap64 (x3_1 + 1)), eY, H', ⟨by have := HK1.out; omega⟩, by repeat (first | exact Drawn0.refl _ | apply Drawn0.step)⟩
            ·rw [if_neg c31] at H
             have c31b0 : ((bt a0 x3_1) == 46) = false := beq_eq_false_iff_ne.mpr c31
             have c31b1 : ((bt a0 x3_1) != 46) = true := bne_iff_ne.mpr c31
             obtain rfl := Option.some.inj H
             have p4 : 0 ≤ (x3_1 : Int) := of_decide_eq_true aS
             have q4 : x3_1 < (a0.size : Int) := of_decide_eq_true aS
             have hx4 := bt_at a0 x3_1
             replace p4 := eq_true p4
             replace q4 := eq_true q4
             go_wp2
             go_ret
             exact ⟨by first | rfl | (simp; done) | (simp [*]; done), by repeat (first | exact Drawn0.refl _ | apply Drawn0.step)⟩
        ·rw [if_neg c27] at H
         have c27b0 : decide (48 ≤ (bt a0 x3_1)) = false := decide_eq_false c27
         clear c27
         by_cases c32 : (bt a0 x3_1) = 45
         ·rw [if_pos c32] at H
          have c32b0 : ((bt a0 x3_1) == 45) = true := beq_iff_eq.mpr c32
          have c32b1 : ((bt a0 x3_1) != 45) = false := bne_eq_false_iff_eq.mpr c32
          clear c32
          have H' := Aside0.mk H
          clear H
          have p4 : 0 ≤ (x3_1 : Int) := of_decide_eq_true aS
          have q4 : x3_1 < (a0.size : Int) := of_decide_eq_true aS
          have hx4 := bt_at a0 x3_1
          replace p4 := eq_true p4
          replace q4 := eq_true q4
          go_wp2
          go_roundg k1
          case measure => have := HK1.out; omega
          case rel => exact ⟨(wrap64 (x3_1 + 1)), eY, H', ⟨by have := HK1.out; omega⟩, by repeat (first | exact Drawn0.refl _ | apply Drawn0.step)⟩
         ·rw [if_neg c32] at H
          have c32b0 : ((bt a0 x3_1) == 45) = false := beq_eq_false_iff_ne.mpr c32
          have c32b1 : ((bt a0 x3_1) != 45) = true := bne_iff_ne.mpr c32
          by_cases c33 : (bt a0 x3_1) = 95
          ·rw [if_pos c33] at H
           have c33b0 : ((bt a0 x3_1) == 95) = true := beq_iff_eq.mpr c33
           have c33b1 : ((bt a0 x3_1) != 95) = false := bne_eq_false_iff_eq.mpr c33
           clear c33
           have H' := Aside0.mk H
           clear H
           have p4 : 0 ≤ (x3_1 : Int) := of_decide_eq_true aS
           have q4 : x3_1 < (a0.size : Int) := of_decide_eq_true aS
           have hx4 := bt_at a0 x3_1
           replace p4 := eq_true p4
           replace q4 := eq_true q4
           go_wp2
           go_roundg k1
           case measure => have := HK1.out; omega
           case rel => exact ⟨(wrap64 (x3_1 + 1)), eY, H', ⟨by have := HK1.out; omega⟩, by repeat (first | exact Drawn0.refl _ | apply Drawn0.step)⟩
          ·rw [if_neg c33] at H
           have c33b0 : ((bt a0 x3_1) == 95) = false := beq_eq_false_iff_ne.mpr c33
           have c33b1 : ((bt a0 x3_1) != 95) = true := bne_iff_ne.mpr c33
           by_cases c34 : (bt a0 x3_1) = 46
           ·rw [if_pos c34] at H
            have c34b0 : ((bt a0 x3_1) == 46) = true := beq_iff_eq.mpr c34
            have c34b1 : ((bt a0 x3_1) != 46) = false := bne_eq_false_iff_eq.mpr c34
            clear c34
            have H' := Aside0.mk H
            clear H
            have p4 : 0 ≤ (x3_1 : Int) := of_decide_eq_true aS
            have q4 : x3_1 < (a0.size : Int) := of_decide_eq_true aS
            have hx4 := bt_at a0 x3_1
            replace p4 := eq_true p4
            replace q4 := eq_true q4
            go_wp2
            go_roundg k1
            case measure => have := HK1.out; omega
            case rel => exact ⟨(wrap64 (x3_1 + 1)), eY, H', ⟨by have := HK1.out; omega⟩, by repeat (first | exact Drawn0.refl _ | apply Drawn0.step)⟩
           ·rw [if_neg c34] at H
            have c34b0 : ((bt a0 x3_1) == 46) = false := beq_eq_false_iff_ne.mpr c34
            have c34b1 : ((bt a0 x3_1) != 46) = true := bne_iff_ne.mpr c34
            obtain rfl := Option.some.inj H
            have p4 : 0 ≤ (x3_1 : Int) := of_decide_eq_true aS
            have q4 : x3_1 < (a0.size : Int) := of_decide_eq_true aS
            have hx4 := bt_at a0 x3_1
            replace p4 := eq_true p4
            replace q4 := eq_true q4
            go_wp2
            go_ret
            exact ⟨by first | rfl | (simp; done) | (simp [*]; done), by repeat (first | exact Drawn0.refl _ | apply Drawn0.step)⟩
      ·rw [if_neg c25] at H
       have c25b0 : decide (65 ≤ (bt a0 x3_1)) = false := decide_eq_false c25
       clear c25
       by_cases c35 : (bt a0 x3_1) ≥ 48
       ·rw [if_pos c35] at H
        have c35b0 : decide (48 ≤ (bt a0 x3_1)) = true := decide_eq_true c35
        clear c35
        by_cases c36 : ((bt a0 x3_1) ≤ 57)
        ·rw [if_pos c36] at H
         have c36b0 : decide ((bt a0 x3_1) ≤ 57) = true := decide_eq_true c36
         clear c36
         have H' := Aside0.mk H
         clear H
         have p4 : 0 ≤ (x3_1 : Int) := of_decide_eq_true aS
         have q4 : x3_1 < (a0.size : Int) := of_decide_eq_true aS
         have hx4 := bt_at a0 x3_1
         replace p4 := eq_true p4
         replace q4 := eq_true q4
         go_wp2
         go_roundg k1
         case measure => have := HK1.out; omega
         case rel => exact ⟨(wrap64 (x3_1 + 1)), eY, H', ⟨by have := HK1.out; omega⟩, by repeat (first | exact Drawn0.refl _ | apply Drawn0.step)⟩
        ·rw [if_neg c36] at H
         have c36b0 : decide ((bt a0 x3_1) ≤ 57) = false := decide_eq_false c36
         clear c36
         by_cases c37 : (bt a0 x3_1) = 45
         ·rw [if_pos c37] at H
          have c37b0 : ((bt a0 x3_1) == 45) = true := beq_iff_eq.mpr c37
          have c37b1 : ((bt a0 x3_1) != 45) = false := bne_eq_false_iff_eq.mpr c37
          clear c37
          have H' := Aside0.mk H
          clear H
          have p4 : 0 ≤ (x3_1 : Int) := of_decide_eq_true aS
          have q4 : x3_1 < (a0.size : Int) := of_decide_eq_true aS
          have hx4 := bt_at a0 x3_1
          replace p4 := eq_true p4
          replace q4 := eq_true q4
          go_wp2
          go_roundg k1
          case measure => have := HK1.out; omega
          case rel => exact ⟨(wrap64 (x3_1 + 1)), eY, H', ⟨by have := HK1.out; omega⟩, by repeat (first | exact Drawn0.refl _ | apply Drawn0.step)⟩
         ·rw [if_neg c37] at H
          have c37b0 : ((bt a0 x3_1) == 45) = false := beq_eq_false_iff_ne.mpr c37
          have c37b1 : ((bt a0 x3_1) != 45) = true := bne_iff_ne.mpr c37
          by_cases c38 : (bt a0 x3_1) = 95
          ·rw [if_pos c38] at H
           have c38b0 : ((bt a0 x3_1) == 95) = true := beq_iff_eq.mpr c38
           have c38b1 : ((bt a0 x3_1) != 95) = false := bne_eq_false_iff_eq.mpr c38
           clear c38
           have H' := Aside0.mk H
           clear H
           have p4 : 0 ≤ (x3_1 : Int) := of_decide_eq_true aS
           have q4 : x3_1 < (a0.size : Int) := of_decide_eq_true aS
           have hx4 := bt_at a0 x3_1
           replace p4 := eq_true p4
           replace q4 := eq_true q4
           go_wp2
           go_roundg k1
           case measure => have := HK1.out; omega
           case rel => exact ⟨(wrap64 (x3_1 + 1)), eY, H', ⟨by have := HK1.out; omega⟩, by repeat (first | exact Drawn0.refl _ | apply Drawn0.step)⟩
          ·rw [if_neg c38] at H
           have c38b0 : ((bt a0 x3_1) == 95) = false := beq_eq_false_iff_ne.mpr c38
           have c38b1 : ((bt a0 x3_1) != 95) = true := bne_iff_ne.mpr c38
           by_cases c39 : (bt a0 x3_1) = 46
           ·rw [if_pos c39] at H
            have c39b0 : ((bt a0 x3_1) == 46) = true := beq_iff_eq.mpr c39
            have c39b1 : ((bt a0 x3_1) != 46) = false := bne_eq_false_iff_eq.mpr c39
            clear c39
            have H' := Aside0.mk H
            clear H
            have p4 : 0 ≤ (x3_1 : Int) := of_decide_eq_true aS
            have q4 : x3_1 < (a0.size : Int) := of_decide_eq_true aS
            have hx4 := bt_at a0 x3_1
            replace p4 := eq_true p4
            replace q4 := eq_true q4
            go_wp2
            go_roundg k1
            case measure => have := HK1.out; omega
            case rel => exact ⟨(wrap64 (x3_1 + 1)), eY, H', ⟨by have := HK1.out; omega⟩, by repeat (first | exact Drawn0.refl _ | apply Drawn0.step)⟩
           ·rw [if_neg c39] at H
            have c39b0 : ((bt a0 x3_1) == 46) = false := beq_eq_false_iff_ne.mpr c39
            have c39b1 : ((bt a0 x3_1) != 46) = true := bne_iff_ne.mpr c39
            obtain rfl := Option.some.inj H
            have p4 : 0 ≤ (x3_1 : Int) := of_decide_eq_true aS
            have q4 : x3_1 < (a0.size : Int) := of_decide_eq_true aS
            have hx4 := bt_at a0 x3_1
            replace p4 := eq_true p4
            replace q4 := eq_true q4
            go_wp2
            go_ret
            exact ⟨by first | rfl | (simp; done) | (simp [*]; done), by repeat (first | exact Drawn0.refl _ | apply Drawn0.step)⟩
       ·rw [if_neg c35] at H
        have c35b0 : decide (48 ≤ (bt a0 x3_1)) = false := decide_eq_false c35
        clear c35
        by_cases c40 : (bt a0 x3_1) = 45
        ·rw [if_pos c40] at H
         have c40b0 : ((bt a0 x3_1) == 45) = true := beq_iff_eq.mpr c40
         have c40b1 : ((bt a0 x3_1) != 45) = false := bne_eq_false_iff_eq.mpr c40
         clear c40
         have H' := Aside0.mk H
         clear H
         have p4 : 0 ≤ (x3_1 : Int) := of_decide_eq_true aS
         have q4 : x3_1 < (a0.size : Int) := of_decide_eq_true aS
         have hx4 := bt_at a0 x3_1
         replace p4 := eq_true p4
         replace q4 := eq_true q4
         go_wp2
         go_roundg k1
         case measure => have := HK1.out; omega
         case rel => exact ⟨(wrap64 (x3_1 + 1)), eY, H', ⟨by have := HK1.out; omega⟩, by repeat (first | exact Drawn0.refl _ | apply Drawn0.step)⟩
        ·rw [if_neg c40] at H
         have c40b0 : ((bt a0 x3_1) == 45) = false := beq_eq_false_iff_ne.mpr c40
         have c40b1 : ((bt a0 x3_1) != 45) = true := bne_iff_ne.mpr c40
         by_cases c41 : (bt a0 x3_1) = 95
         ·rw [if_pos c41] at H
          have c41b0 : ((bt a0 x3_1) == 95) = true := beq_iff_eq.mpr c41
          have c41b1 : ((bt a0 x3_1) != 95) = false := bne_eq_false_iff_eq.mpr c41
          clear c41
          have H' := Aside0.mk H
          clear H
          have p4 : 0 ≤ (x3_1 : Int) := of_decide_eq_true aS
          have q4 : x3_1 < (a0.size : Int) := of_decide_eq_true aS
          have hx4 := bt_at a0 x3_1
          replace p4 := eq_true p4
          replace q4 := eq_true q4
          go_wp2
          go_roundg k1
          case measure => have := HK1.out; omega
          case rel => exact ⟨(wrap64 (x3_1 + 1)), eY, H', ⟨by have := HK1.out; omega⟩, by repeat (first | exact Drawn0.refl _ | apply Drawn0.step)⟩
         ·rw [if_neg c41] at H
          have c41b0 : ((bt a0 x3_1) == 95) = false := beq_eq_false_iff_ne.mpr c41
          have c41b1 : ((bt a0 x3_1) != 95) = true := bne_iff_ne.mpr c41
          by_cases c42 : (bt a0 x3_1) = 46
          ·rw [if_pos c42] at H
           have c42b0 : ((bt a0 x3_1) == 46) = true := beq_iff_eq.mpr c42
           have c42b1 : ((bt a0 x3_1) != 46) = false := bne_eq_false_iff_eq.mpr c42
           clear c42
           have H' := Aside0.mk H
           clear H
           have p4 : 0 ≤ (x3_1 : Int) := of_decide_eq_true aS
           have q4 : x3_1 < (a0.size : Int) := of_decide_eq_true aS
           have hx4 := bt_at a0 x3_1
           replace p4 := eq_true p4
           replace q4 := eq_true q4
           go_wp2
           go_roundg k1
           case measure => have := HK1.out; omega
           case rel => exact ⟨(wrap64 (x3_1 + 1)), eY, H', ⟨by have := HK1.out; omega⟩, by repeat (first | exact Drawn0.refl _ | apply Drawn0.step)⟩
          ·rw [if_neg c42] at H
           have c42b0 : ((bt a0 x3_1) == 46) = false := beq_eq_false_iff_ne.mpr c42
           have c42b1 : ((bt a0 x3_1) != 46) = true := bne_iff_ne.mpr c42
           obtain rfl := Option.some.inj H
           have p4 : 0 ≤ (x3_1 : Int) := of_decide_eq_true aS
           have q4 : x3_1 < (a0.size : Int) := of_decide_eq_true aS
           have hx4 := bt_at a0 x3_1
           replace p4 := eq_true p4
           replace q4 := eq_true q4
           go_wp2
           go_ret
           exact ⟨by first | rfl | (simp; done) | (simp [*]; done), by repeat (first | exact Drawn0.refl _ | apply Drawn0.step)⟩
    ·rw [if_neg c3] at H
     exact absurd H (by simp)
   ·rw [if_neg c2] at H
    have c2b0 : decide (x3_1 < (a0.size : Int)) = false := decide_eq_false c2
    clear c2
    by_cases c43 : a0.toList = ([] : List UInt8)
    ·rw [if_pos c43] at H
     have c43b0 : (a0.toList == ([] : List UInt8)) = true := beq_iff_eq.mpr c43
     have c43b1 : (a0.toList != ([] : List UInt8)) = false := bne_eq_false_iff_eq.mpr c43
     clear c43
     obtain rfl := Option.some.inj H
     go_wp2
     go_ret
     exact ⟨by first | rfl | (simp; done) | (simp [*]; done), by repeat (first | exact Drawn0.refl _ | apply Drawn0.step)⟩
    ·rw [if_neg c43] at H
     have c43b0 : (a0.toList == ([] : List UInt8)) = false := beq_eq_false_iff_ne.mpr c43
     have c43b1 : (a0.toList != ([] : List UInt8)) = true := bne_iff_ne.mpr c43
     by_cases c44 : a0.toList = ([46] : List UInt8)
     ·rw [if_pos c44] at H
      have c44b0 : (a0.toList == ([46] : List UInt8)) = true := beq_iff_eq.mpr c44
      have c44b1 : (a0.toList != ([46] : List UInt8)) = false := bne_eq_false_iff_eq.mpr c44
      clear c44
      obtain rfl := Option.some.inj H
      go_wp2
      go_ret
      exact ⟨by first | rfl | (simp; done) | (simp [*]; done), by repeat (first | exact Drawn0.refl _ | apply Drawn0.step)⟩
     ·rw [if_neg c44] at H
      have c44b0 : (a0.toList == ([46] : List UInt8)) = false := beq_eq_false_iff_ne.mpr c44
      have c44b1 : (a0.toList != ([46] : List UInt8)) = true := bne_iff_ne.mpr c44
      obtain rfl := Option.some.inj H
      go_wp2
      go_ret
      exact ⟨by first | rfl | (simp; done) | (simp [*]; done), by repeat (first | exact Drawn0.refl _ | apply Drawn0.step)⟩
def armadaref05_Path.l0 : Nat → List ByteArray → Int → Option (Bool)
 | 0, _, _ => none
 | k + 1, x3, x4 => if x4 < (x3.length : Int) then (if 0 ≤ x4 then ((armadaref05_part.f k (rdOf ByteArray.empty x3 x4)).bind fun t194 => (if t194 = true then (armadaref05_Path.l0 k x3 (wrap64 (x4 + 1))) else (some false))) else (none)) else (some true)
def armadaref05_Path.f (k : Nat) (a0 : ByteArray) : Option (Bool) := if (a0.size : Int) > 60 then (some false) else ((armadaref05_Split.f k a0 47).bind fun t190 => (armadaref05_Path.l0 k t190 0))
theorem armadaref05_Path.mono_l : ∀ k, (∀ y0 y1, LeO (armadaref05_Path.l0 k y0 y1) (armadaref05_Path.l0 (k + 1) y0 y1))
 | 0 => fun _ _ r h => by simp [armadaref05_Path.l0] at h
 | k + 1 => by
  have ih0 := armadaref05_Path.mono_l k
  ·intro y0 y1
   unfold armadaref05_Path.l0
   repeat' first
   | (with_reducible exact ih0 _ _)
   | (with_reducible exact armadaref05_Split.mono _ _ _)
   | (with_reducible exact armadaref05_part.mono _ _)
   | (with_reducible exact LeO.refl _)
   | (with_reducible exact LeO.none _)
   | (with_reducible refine LeO.ite ?_ ?_)
   | (with_reducible refine LeO.bind ?_ (fun _ => ?_))
   | exact ih0 _ _
   | exact armadaref05_Split.mono _ _ _
   | exact armadaref05_part.mono _ _
   | exact LeO.none _
   | refine LeO.ite ?_ ?_
   | refine LeO.bind ?_ (fun _ => ?_)
theorem armadaref05_Path.mono : ∀ a0 k, LeO (armadaref05_Path.f k a0) (armadaref05_Path.f (k + 1) a0) := by
 intro a0 k
 have ih0 := armadaref05_Path.mono_l k
 unfold armadaref05_Path.f
 repeat' first
   | (with_reducible exact ih0 _ _)
   | (with_reducible exact armadaref05_Split.mono _ _ _)
   | (with_reducible exact armadaref05_part.mono _ _)
   | (with_reducible exact LeO.refl _)
   | (with_reducible exact LeO.none _)
   | (with_reducible refine LeO.ite ?_ ?_)
   | (with_reducible refine LeO.bind ?_ (fun _ => ?_))
   | exact ih0 _ _
   | exact armadaref05_Split.mono _ _ _
   | exact armadaref05_part.mono _ _
   | exact LeO.none _
   | refine LeO.ite ?_ ?_
   | refine LeO.bind ?_ (fun _ => ?_)
set_option maxHeartbeats 8000000 in
set_option maxRecDepth 100000 in
theorem armadaref05_Path.calls (k : Nat) (a0 : ByteArray) (r : Bool) (w : World) (h : armadaref05_Path.f k a0 = some r) :
  Calls Tryd.prog 15 #[.string a0] w fun e w' => e = .returned (.bool r) ∧ Below w.heap.size w w' := by
 have HB := Aside0.mk (Below.refl w.heap.size w)
 have H := h
 unfold armadaref05_Path.f at H
 clear h
 by_cases c2 : (a0.size : Int) > 60
 ·rw [if_pos c2] at H
  have c2b0 : decide (60 < (a0.size : Int)) = true := decide_eq_true c2
  have c2b1 : decide (60 < a0.size) = true := decide_eq_true (by omega)
  clear c2
  obtain rfl := Option.some.inj H
  go_enter Tryd.func15, Tryd.ntmps15
  go_wp2
  go_ret
  exact ⟨eX, qH⟩
 ·rw [if_neg c2] at H
  have c2b0 : decide (60 < (a0.size : Int)) = false := decide_eq_false c2
  have c2b1 : decide (60 < a0.size) = false := decide_eq_false (by omega)
  clear c2
  replace H := Option.bind_eq_some_iff.mp H
  obtain ⟨t190, A30, H⟩ := H
  try dsimp only at H
  have A3 := Aside0.mk A30
  clear A30
  have H' := Aside0.mk H
  clear H
  go_enter Tryd.func15, Tryd.ntmps15
  go_wp2_with (first | ((with_reducible refine gate_callee (f := 34) rfl ?_); refine gL (some 9) Tryd.func34 #[.string a0, .int .u8 47] ?_; (with_reducible refine (armadaref05_Split.calls k a0 47 t190 _ A3.out).mono ?_); rintro e w4 ⟨v191, rfl, ho0, hb⟩; refine ⟨_, rfl, ?_⟩; have n0_ := Aside0.mk (Kd.R_lower ho0 (below_size qH)); have n1_ := wH hb; clear HB; have HO192 := n0_; have HB := n1_; clear n0_ n1_; (try clear hb); (try clear hb2); (try clear hk); (try clear hi); (try clear ho0)))
  go_loopg [4] k (fun kq v4 w' => ∃ (x4_1 : Int), v4 = .int .i64 x4_1 ∧ Aside0 (armadaref05_Path.l0 kq t190 x4_1 = some r) ∧ Aside0 (kq ≤ k) ∧ Aside0 (Kd.R Kd.string 9 w' w.heap.size (fun _ => True) v191 t190) ∧ Aside0 (Below w.heap.size w w'))
  case atStart => exact ⟨(0), eY, H', ⟨Nat.le_refl _⟩, ⟨qR HO192.out⟩, ⟨qH⟩⟩
  case round =>
   clear H'
   (try clear c2b0); (try clear c2b1); (try clear p2)
   obtain ⟨x4_1, rfl, HA, HK1, HO_3, HB⟩ := hrel
   cases gk with
   | zero => exact absurd HA.out (by simp [armadaref05_Path.l0])
   | succ k1 =>
    have H := HA.out
    clear HA
    simp only [armadaref05_Path.l0] at H
    by_cases c5 : x4_1 < (t190.length : Int)
    ·rw [if_pos c5] at H
     have c5b0 : decide (x4_1 < (t190.length : Int)) = true := decide_eq_true c5
     clear c5
     by_cases c6 : 0 ≤ x4_1
     ·rw [if_pos c6] at H
      have c6b0 : decide (0 ≤ x4_1) = true := decide_eq_true c6
      clear c6
      replace H := Option.bind_eq_some_iff.mp H
      obtain ⟨t194, A70, H⟩ := H
      try dsimp only at H
      have A7 := Aside0.mk A70
      clear A70
      by_cases c8 : t194 = true
      ·subst c8
       rw [if_pos rfl] at H
       have H' := Aside0.mk H
       clear H
       obtain ⟨Ao9, co9, eo9⟩ := Kd.R_slice HO_3.out
       subst eo9
       have p193 : 0 ≤ (x4_1 : Int) := of_decide_eq_true aS
       have q193 : x4_1 < (t190.length : Int) := of_decide_eq_true aS
       obtain ⟨ad193, e193, hx193_0⟩ := Kd.at_string (Kd.R_reads' HO_3.out).2.2 x4_1 p193 q193
       cases e193
       replace p193 := eq_true p193
       replace q193 := eq_true q193
       go_wp2_with (first | ((with_reducible refine gate_callee (f := 35) rfl ?_); refine gL (some 20) Tryd.func35 #[.string (rdOf ByteArray.empty t190 x4_1)] ?_; (with_reducible refine (armadaref05_part.calls k1 (rdOf ByteArray.empty t190 x4_1) true _ A7.out).mono ?_); rintro e w' ⟨rfl, ⟨nd, rfl⟩⟩; refine ⟨_, rfl, ?_⟩) | (go_at_call 35; (with_reducible refine (armadaref05_part.calls k1 (rdOf ByteArray.empty t190 x4_1) true _ A7.out).mono ?_); rintro e w' ⟨rfl, ⟨nd, rfl⟩⟩))
       go_roundg k1
       case measure => have := HK1.out; omega
       case rel => exact ⟨(wrap64 (x4_1 + 1)), eY, H', ⟨by have := HK1.out; omega⟩, ⟨qR HO_3.out⟩, ⟨qH⟩⟩
      ·replace c8 := Bool.eq_false_iff.mpr c8
       subst c8
       rw [if_neg nF_] at H
       obtain rfl := Option.some.inj H
       obtain ⟨Ao10, co10, eo10⟩ := Kd.R_slice HO_3.out
       subst eo10
       have p193 : 0 ≤ (x4_1 : Int) := of_decide_eq_true aS
       have q193 : x4_1 < (t190.length : Int) := of_decide_eq_true aS
       obtain ⟨ad193, e193, hx193_0⟩ := Kd.at_string (Kd.R_reads' HO_3.out).2.2 x4_1 p193 q193
       cases e193
       replace p193 := eq_true p193
       replace q193 := eq_true q193
       go_wp2_with (first | ((with_reducible refine gate_callee (f := 35) rfl ?_); refine gL (some 20) Tryd.func35 #[.string (rdOf ByteArray.empty t190 x4_1)] ?_; (with_reducible refine (armadaref05_part.calls k1 (rdOf ByteArray.empty t190 x4_1) false _ A7.out).mono ?_); rintro e w' ⟨rfl, ⟨nd, rfl⟩⟩; refine ⟨_, rfl, ?_⟩) | (go_at_call 35; (with_reducible refine (armadaref05_part.calls k1 (rdOf ByteArray.empty t190 x4_1) false _ A7.out).mono ?_); rintro e w' ⟨rfl, ⟨nd, rfl⟩⟩))
       go_ret
       exact ⟨eX, qH⟩
     ·rw [if_neg c6] at H
      exact absurd H (by simp)
    ·rw [if_neg c5] at H
     have c5b0 : decide (x4_1 < (t190.length : Int)) = false := decide_eq_false c5
     clear c5
     obtain rfl := Option.some.inj H
     obtain ⟨Ao11, co11, eo11⟩ := Kd.R_slice HO_3.out
     subst eo11
     go_wp2
     go_ret
     exact ⟨eX, qH⟩
section
attribute [local go_sem high] eqA49
def armadaref05_Same.l0 : Nat → List (S49) → List (S49) → Int → Option (Bool)
 | 0, _, _, _ => none
 | k + 1, x0, x1, x5 => if x5 < (x0.length : Int) then (if 0 ≤ x5 then (if x5 < (x1.length : Int) then (if (!((((rd_T49 x0 x5).f0).toList) == (((rd_T49 x1 x5).f0).toList)) || (!((((rd_T49 x0 x5).f1).toList) == (((rd_T49 x1 x5).f1).toList)))) = true then (some false) else (armadaref05_Same.l0 k x0 x1 (wrap64 (x5 + 1)))) else (none)) else (none)) else (some true)
def armadaref05_Same.f (k : Nat) (l0 : List (S49)) (l1 : List (S49)) : Option (Bool) := if (l0.length : Int) = (l1.length : Int) then (armadaref05_Same.l0 k l0 l1 0) else (some false)
theorem armadaref05_Same.mono_l : ∀ k, (∀ y0 y1 y2, LeO (armadaref05_Same.l0 k y0 y1 y2) (armadaref05_Same.l0 (k + 1) y0 y1 y2))
 | 0 => fun _ _ _ r h => by simp [armadaref05_Same.l0] at h
 | k + 1 => by
  have ih0 := armadaref05_Same.mono_l k
  ·intro y0 y1 y2
   unfold armadaref05_Same.l0
   repeat' first
   | (with_reducible exact ih0 _ _ _)
   | (with_reducible exact LeO.refl _)
   | (with_reducible exact LeO.none _)
   | (with_reducible refine LeO.ite ?_ ?_)
   | (with_reducible refine LeO.bind ?_ (fun _ => ?_))
   | exact ih0 _ _ _
   | exact LeO.none _
   | refine LeO.ite ?_ ?_
   | refine LeO.bind ?_ (fun _ => ?_)
theorem armadaref05_Same.mono : ∀ a0 a1 k, LeO (armadaref05_Same.f k a0 a1) (armadaref05_Same.f (k + 1) a0 a1) := by
 intro a0 a1 k
 have ih0 := armadaref05_Same.mono_l k
 unfold armadaref05_Same.f
 repeat' first
   | (with_reducible exact ih0 _ _ _)
   | (with_reducible exact LeO.refl _)
   | (with_reducible exact LeO.none _)
   | (with_reducible refine LeO.ite ?_ ?_)
   | (with_reducible refine LeO.bind ?_ (fun _ => ?_))
   | exact ih0 _ _ _
   | exact LeO.none _
   | refine LeO.ite ?_ ?_
   | refine LeO.bind ?_ (fun _ => ?_)
set_option maxHeartbeats 8000000 in
set_option maxRecDepth 100000 in
theorem armadaref05_Same.calls (k : Nat) (A0 : Option Addr) (c0 : Nat) (l0 : List (S49)) (A1 : Option Addr) (c1 : Nat) (l1 : List (S49)) (r : Bool) (w : World) (hr0 : Kd.C k49 w A0 l0.length l0) (hc0 : l0.length ≤ c0) (hr1 : Kd.C k49 w A1 l1.length l1) (hc1 : l1.length ≤ c1) (h : armadaref05_Same.f k l0 l1 = some r) :
  Calls Tryd.prog 19 #[.slice A0 l0.length c0, .slice A1 l1.length c1] w fun e w' => e = .returned (.bool r) ∧ Drawn0 w w' := by
 have hu49 := Tryd.underlying49
 have HR0 := Aside0.mk hr0
 have HC0 := Aside0.mk hc0
 clear hr0 hc0
 have HR1 := Aside0.mk hr1
 have HC1 := Aside0.mk hc1
 clear hr1 hc1
 have H : (if (l0.length : Int) = (l1.length : Int) then (armadaref05_Same.l0 k l0 l1 0) else (some false)) = some r := h
 clear h
 by_cases c3 : (l0.length : Int) = (l1.length : Int)
 ·rw [if_pos c3] at H
  have c3b0 : ((l0.length : Int) == (l1.length : Int)) = true := beq_iff_eq.mpr c3
  have c3b1 : ((l0.length : Int) != (l1.length : Int)) = false := bne_eq_false_iff_eq.mpr c3
  have c3b2 : (l0.length == l1.length) = true := by first | simpa using c3 | (simp at c3 ⊢; omega)
  clear c3
  have H' := Aside0.mk H
  clear H
  go_enter Tryd.func19, Tryd.ntmps19
  go_wp2
  repeat (go_quiet (fail); try go_wp2)
  go_loopg [5] k (fun kq v5 w' => ∃ (x5_1 : Int), v5 = .int .i64 x5_1 ∧ Aside0 (armadaref05_Same.l0 kq l0 l1 x5_1 = some r) ∧ Aside0 (kq ≤ k) ∧ Drawn0 w w')
  case atStart => exact ⟨(0), eY, H', ⟨Nat.le_refl _⟩, by repeat (first | exact Drawn0.refl _ | apply Drawn0.step)⟩
  case round =>
   clear H'
   (try clear p2); (try clear c3b0); (try clear c3b1); (try clear c3b2)
   obtain ⟨x5_1, rfl, HA, HK1, ⟨m1, rfl⟩⟩ := hrel
   cases gk with
   | zero => exact absurd HA.out (by simp [armadaref05_Same.l0])
   | succ k1 =>
    have H := HA.out
    clear HA
    simp only [armadaref05_Same.l0] at H
    by_cases c4 : x5_1 < (l0.length : Int)
    ·rw [if_pos c4] at H
     have c4b0 : decide (x5_1 < (l0.length : Int)) = true := decide_eq_true c4
     clear c4
     by_cases c5 : 0 ≤ x5_1
     ·rw [if_pos c5] at H
      have c5b0 : decide (0 ≤ x5_1) = true := decide_eq_true c5
      clear c5
      by_cases c6 : x5_1 < (l1.length : Int)
      ·rw [if_pos c6] at H
       have c6b0 : decide (x5_1 < (l1.length : Int)) = true := decide_eq_true c6
       clear c6
       by_cases c7 : (!((((rd_T49 l0 x5_1).f0).toList) == (((rd_T49 l1 x5_1).f0).toList)) || (!((((rd_T49 l0 x5_1).f1).toList) == (((rd_T49 l1 x5_1).f1).toList)))) = true
       ·rw [if_pos c7] at H
        have c7b0 : (!((((rd_T49 l0 x5_1).f0).toList) == (((rd_T49 l1 x5_1).f0).toList)) || (!((((rd_T49 l0 x5_1).f1).toList) == (((rd_T49 l1 x5_1).f1).toList)))) = true := c7
        clear c7
        obtain rfl := Option.some.inj H
        have p200 : 0 ≤ (x5_1 : Int) := of_decide_eq_true aS
        have q200 : x5_1 < (l0.length : Int) := of_decide_eq_true aS
        obtain ⟨ad200, e200, hx200_0, hx200_1⟩ := at_T49 HR0.out x5_1 p200 q200
        cases e200
        replace p200 := eq_true p200
        replace q200 := eq_true q200
        have p201 : 0 ≤ (x5_1 : Int) := of_decide_eq_true aS
        have q201 : x5_1 < (l1.length : Int) := of_decide_eq_true aS
        obtain ⟨ad201, e201, hx201_0, hx201_1⟩ := at_T49 HR1.out x5_1 p201 q201
        cases e201
        replace p201 := eq_true p201
        replace q201 := eq_true q201
        go_wp2
        repeat (go_quiet (fail); try go_wp2)
        go_ret
        exact ⟨by first | rfl | (simp; done) | (simp [*]; done), by repeat (first | exact Drawn0.refl _ | apply Drawn0.step)⟩
       ·rw [if_neg c7] at H
        have c7b0 : (!((((rd_T49 l0 x5_1).f0).toList) == (((rd_T49 l1 x5_1).f0).toList)) || (!((((rd_T49 l0 x5_1).f1).toList) == (((rd_T49 l1 x5_1).f1).toList)))) = false := by simpa using c7
        clear c7
        have H' := Aside0.mk H
        clear H
        have p200 : 0 ≤ (x5_1 : Int) := of_decide_eq_true aS
        have q200 : x5_1 < (l0.length : Int) := of_decide_eq_true aS
        obtain ⟨ad200, e200, hx200_0, hx200_1⟩ := at_T49 HR0.out x5_1 p200 q200
        cases e200
        replace p200 := eq_true p200
        replace q200 := eq_true q200
        have p201 : 0 ≤ (x5_1 : Int) := of_decide_eq_true aS
        have q201 : x5_1 < (l1.length : Int) := of_decide_eq_true aS
        obtain ⟨ad201, e201, hx201_0, hx201_1⟩ := at_T49 HR1.out x5_1 p201 q201
        cases e201
        replace p201 := eq_true p201
        replace q201 := eq_true q201
        go_wp2
        repeat (go_quiet (fail); try go_wp2)
        go_roundg k1
        case measure => have := HK1.out; omega
        case rel => exact ⟨(wrap64 (x5_1 + 1)), eY, H', ⟨by have := HK1.out; omega⟩, by repeat (first | exact Drawn0.refl _ | apply Drawn0.step)⟩
      ·rw [if_neg c6] at H
       exact absurd H (by simp)
     ·rw [if_neg c5] at H
      exact absurd H (by simp)
    ·rw [if_neg c4] at H
     have c4b0 : decide (x5_1 < (l0.length : Int)) = false := decide_eq_false c4
     clear c4
     obtain rfl := Option.some.inj H
     go_wp2
     repeat (go_quiet (fail); try go_wp2)
     go_ret
     exact ⟨by first | rfl | (simp; done) | (simp [*]; done), by repeat (first | exact Drawn0.refl _ | apply Drawn0.step)⟩
 ·rw [if_neg c3] at H
  have c3b0 : ((l0.length : Int) == (l1.length : Int)) = false := beq_eq_false_iff_ne.mpr c3
  have c3b1 : ((l0.length : Int) != (l1.length : Int)) = true := bne_iff_ne.mpr c3
  have c3b2 : (l0.length == l1.length) = false := by first | simpa using c3 | (simp at c3 ⊢; omega)
  obtain rfl := Option.some.inj H
  go_enter Tryd.func19, Tryd.ntmps19
  go_wp2
  repeat (go_quiet (fail); try go_wp2)
  go_ret
  exact ⟨by first | rfl | (simp; done) | (simp [*]; done), by repeat (first | exact Drawn0.refl _ | apply Drawn0.step)⟩
end
def armadaref05_Few.l0 : Nat → List (S45) → Int → Option (Bool)
 | 0, _, _ => none
 | k + 1, x0, x3 => if x3 < (x0.length : Int) then (if 0 ≤ x3 then (if (((rd_T45 x0 x3).f1).size : Int) > 200 then (some false) else (if (((rd_T45 x0 x3).f2).size : Int) > 5000 then (some false) else (armadaref05_Few.l0 k x0 (wrap64 (x3 + 1))))) else (none)) else (some (decide ((x0.length : Int) ≤ 100)))
def armadaref05_Few.f (k : Nat) (l0 : List (S45)) : Option (Bool) := armadaref05_Few.l0 k l0 0
theorem armadaref05_Few.mono_l : ∀ k, (∀ y0 y1, LeO (armadaref05_Few.l0 k y0 y1) (armadaref05_Few.l0 (k + 1) y0 y1))
 | 0 => fun _ _ r h => by simp [armadaref05_Few.l0] at h
 | k + 1 => by
  have ih0 := armadaref05_Few.mono_l k
  ·intro y0 y1
   unfold armadaref05_Few.l0
   repeat' first
   | (with_reducible exact ih0 _ _)
   | (with_reducible exact LeO.refl _)
   | (with_reducible exact LeO.none _)
   | (with_reducible refine LeO.ite ?_ ?_)
   | (with_reducible refine LeO.bind ?_ (fun _ => ?_))
   | exact ih0 _ _
   | exact LeO.none _
   | refine LeO.ite ?_ ?_
   | refine LeO.bind ?_ (fun _ => ?_)
theorem armadaref05_Few.mono : ∀ a0 k, LeO (armadaref05_Few.f k a0) (armadaref05_Few.f (k + 1) a0) := by
 intro a0 k
 have ih0 := armadaref05_Few.mono_l k
 unfold armadaref05_Few.f
 repeat' first
   | (with_reducible exact ih0 _ _)
   | (with_reducible exact LeO.refl _)
   | (with_reducible exact LeO.none _)
   | (with_reducible refine LeO.ite ?_ ?_)
   | (with_reducible refine LeO.bind ?_ (fun _ => ?_))
   | exact ih0 _ _
   | exact LeO.none _
   | refine LeO.ite ?_ ?_
   | refine LeO.bind ?_ (fun _ => ?_)
set_option maxHeartbeats 8000000 in
set_option maxRecDepth 100000 in
theorem armadaref05_Few.calls (k : Nat) (A0 : Option Addr) (c0 : Nat) (l0 : List (S45)) (r : Bool) (w : World) (hr0 : Kd.C k45 w A0 l0.length l0) (hc0 : l0.length ≤ c0) (h : armadaref05_Few.f k l0 = some r) :
  Calls Tryd.prog 20 #[.slice A0 l0.length c0] w fun e w' => e = .returned (.bool r) ∧ Drawn0 w w' := by
 have HR0 := Aside0.mk hr0
 have HC0 := Aside0.mk hc0
 clear hr0 hc0
 have H : (armadaref05_Few.l0 k l0 0) = some r := h
 clear h
 have H' := Aside0.mk H
 clear H
 go_enter Tryd.func20, Tryd.ntmps20
 go_wp2
 go_loopg [3] k (fun kq v3 w' => ∃ (x3_1 : Int), v3 = .int .i64 x3_1 ∧ Aside0 (armadaref05_Few.l0 kq l0 x3_1 = some r) ∧ Aside0 (kq ≤ k) ∧ Drawn0 w w')
 case atStart => exact ⟨(0), eY, H', ⟨Nat.le_refl _⟩, by repeat (first | exact Drawn0.refl _ | apply Drawn0.step)⟩
 case round =>
  clear H'
  obtain ⟨x3_1, rfl, HA, HK1, ⟨m1, rfl⟩⟩ := hrel
  cases gk with
  | zero => exact absurd HA.out (by simp [armadaref05_Few.l0])
  | succ k1 =>
   have H := HA.out
   clear HA
   simp only [armadaref05_Few.l0] at H
   by_cases c2 : x3_1 < (l0.length : Int)
   ·rw [if_pos c2] at H
    have c2b0 : decide (x3_1 < (l0.length : Int)) = true := decide_eq_true c2
    clear c2
    by_cases c3 : 0 ≤ x3_1
    ·rw [if_pos c3] at H
     have c3b0 : decide (0 ≤ x3_1) = true := decide_eq_true c3
     clear c3
     by_cases c4 : (((rd_T45 l0 x3_1).f1).size : Int) > 200
     ·rw [if_pos c4] at H
      have c4b0 : decide (200 < (((rd_T45 l0 x3_1).f1).size : Int)) = true := decide_eq_true c4
      have c4b1 : decide (200 < ((rd_T45 l0 x3_1).f1).size) = true := decide_eq_true (by omega)
      clear c4
      obtain rfl := Option.some.inj H
      have p216 : 0 ≤ (x3_1 : Int) := of_decide_eq_true aS
      have q216 : x3_1 < (l0.length : Int) := of_decide_eq_true aS
      obtain ⟨ad216, e216, hx216_0, hx216_1, hx216_2⟩ := at_T45 HR0.out x3_1 p216 q216
      cases e216
      replace p216 := eq_true p216
      replace q216 := eq_true q216
      go_wp2
      go_ret
      exact ⟨by first | rfl | (simp; done) | (simp [*]; done), by repeat (first | exact Drawn0.refl _ | apply Drawn0.step)⟩
     ·rw [if_neg c4] at H
      have c4b0 : decide (200 < (((rd_T45 l0 x3_1).f1).size : Int)) = false := decide_eq_false c4
      have c4b1 : decide (200 < ((rd_T45 l0 x3_1).f1).size) = false := decide_eq_false (by omega)
      clear c4
      by_cases c5 : (((rd_T45 l0 x3_1).f2).size : Int) > 5000
      ·rw [if_pos c5] at H
       have c5b0 : decide (5000 < (((rd_T45 l0 x3_1).f2).size : Int)) = true := decide_eq_true c5
       have c5b1 : decide (5000 < ((rd_T45 l0 x3_1).f2).size) = true := decide_eq_true (by omega)
       clear c5
       obtain rfl := Option.some.inj H
       have p216 : 0 ≤ (x3_1 : Int) := of_decide_eq_true aS
       have q216 : x3_1 < (l0.length : Int) := of_decide_eq_true aS
       obtain ⟨ad216, e216, hx216_0, hx216_1, hx216_2⟩ := at_T45 HR0.out x3_1 p216 q216
       cases e216
       replace p216 := eq_true p216
       replace q216 := eq_true q216
       have p217 : 0 ≤ (x3_1 : Int) := of_decide_eq_true aS
       have q217 : x3_1 < (l0.length : Int) := of_decide_eq_true aS
       obtain ⟨ad217, e217, hx217_0, hx217_1, hx217_2⟩ := at_T45 HR0.out x3_1 p217 q217
       obtain rfl : ad216 = ad217 := (by injection e217)
       replace p217 := eq_true p217
       replace q217 := eq_true q217
       go_wp2
       go_ret
       exact ⟨by first | rfl | (simp; done) | (simp [*]; done), by repeat (first | exact Drawn0.refl _ | apply Drawn0.step)⟩
      ·rw [if_neg c5] at H
       have c5b0 : decide (5000 < (((rd_T45 l0 x3_1).f2).size : Int)) = false := decide_eq_false c5
       have c5b1 : decide (5000 < ((rd_T45 l0 x3_1).f2).size) = false := decide_eq_false (by omega)
       clear c5
       have H' := Aside0.mk H
       clear H
       have p216 : 0 ≤ (x3_1 : Int) := of_decide_eq_true aS
       have q216 : x3_1 < (l0.length : Int) := of_decide_eq_true aS
       obtain ⟨ad216, e216, hx216_0, hx216_1, hx216_2⟩ := at_T45 HR0.out x3_1 p216 q216
       cases e216
       replace p216 := eq_true p216
       replace q216 := eq_true q216
       have p217 : 0 ≤ (x3_1 : Int) := of_decide_eq_true aS
       have q217 : x3_1 < (l0.length : Int) := of_decide_eq_true aS
       obtain ⟨ad217, e217, hx217_0, hx217_1, hx217_2⟩ := at_T45 HR0.out x3_1 p217 q217
       obtain rfl : ad216 = ad217 := (by injection e217)
       replace p217 := eq_true p217
       replace q217 := eq_true q217
       go_wp2
       go_roundg k1
       case measure => have := HK1.out; omega
       case rel => exact ⟨(wrap64 (x3_1 + 1)), eY, H', ⟨by have := HK1.out; omega⟩, by repeat (first | exact Drawn0.refl _ | apply Drawn0.step)⟩
    ·rw [if_neg c3] at H
     exact absurd H (by simp)
   ·rw [if_neg c2] at H
    have c2b0 : decide (x3_1 < (l0.length : Int)) = false := decide_eq_false c2
    clear c2
    obtain rfl := Option.some.inj H
    go_wp2
    go_ret
    exact ⟨by first | rfl | (simp; done) | (simp [*]; done), by repeat (first | exact Drawn0.refl _ | apply Drawn0.step)⟩
section
attribute [local go_sem high] eqA45
def armadaref05_Ops.l0 : Nat → List (S45) → List (S45) → Int → Option (Bool)
 | 0, _, _, _ => none
 | k + 1, x0, x1, x5 => if x5 < (x0.length : Int) then (if 0 ≤ x5 then (if x5 < (x1.length : Int) then (if (!(((rd_T45 x0 x5).f0) == ((rd_T45 x1 x5).f0)) || (!((((rd_T45 x0 x5).f1).toList) == (((rd_T45 x1 x5).f1).toList)) || (!((((rd_T45 x0 x5).f2).toList) == (((rd_T45 x1 x5).f2).toList))))) = true then (some false) else (armadaref05_Ops.l0 k x0 x1 (wrap64 (x5 + 1)))) else (none)) else (none)) else (some true)
def armadaref05_Ops.f (k : Nat) (l0 : List (S45)) (l1 : List (S45)) : Option (Bool) := if (l0.length : Int) = (l1.length : Int) then (armadaref05_Ops.l0 k l0 l1 0) else (some false)
theorem armadaref05_Ops.mono_l : ∀ k, (∀ y0 y1 y2, LeO (armadaref05_Ops.l0 k y0 y1 y2) (armadaref05_Ops.l0 (k + 1) y0 y1 y2))
 | 0 => fun _ _ _ r h => by simp [armadaref05_Ops.l0] at h
 | k + 1 => by
  have ih0 := armadaref05_Ops.mono_l k
  ·intro y0 y1 y2
   unfold armadaref05_Ops.l0
   repeat' first
   | (with_reducible exact ih0 _ _ _)
   | (with_reducible exact LeO.refl _)
   | (with_reducible exact LeO.none _)
   | (with_reducible refine LeO.ite ?_ ?_)
   | (with_reducible refine LeO.bind ?_ (fun _ => ?_))
   | exact ih0 _ _ _
   | exact LeO.none _
   | refine LeO.ite ?_ ?_
   | refine LeO.bind ?_ (fun _ => ?_)
theorem armadaref05_Ops.mono : ∀ a0 a1 k, LeO (armadaref05_Ops.f k a0 a1) (armadaref05_Ops.f (k + 1) a0 a1) := by
 intro a0 a1 k
 have ih0 := armadaref05_Ops.mono_l k
 unfold armadaref05_Ops.f
 repeat' first
   | (with_reducible exact ih0 _ _ _)
   | (with_reducible exact LeO.refl _)
   | (with_reducible exact LeO.none _)
   | (with_reducible refine LeO.ite ?_ ?_)
   | (with_reducible refine LeO.bind ?_ (fun _ => ?_))
   | exact ih0 _ _ _
   | exact LeO.none _
   | refine LeO.ite ?_ ?_
   | refine LeO.bind ?_ (fun _ => ?_)
set_option maxHeartbeats 8000000 in
set_option maxRecDepth 100000 in
theorem armadaref05_Ops.calls (k : Nat) (A0 : Option Addr) (c0 : Nat) (l0 : List (S45)) (A1 : Option Addr) (c1 : Nat) (l1 : List (S45)) (r : Bool) (w : World) (hr0 : Kd.C k45 w A0 l0.length l0) (hc0 : l0.length ≤ c0) (hr1 : Kd.C k45 w A1 l1.length l1) (hc1 : l1.length ≤ c1) (h : armadaref05_Ops.f k l0 l1 = some r) :
  Calls Tryd.prog 23 #[.slice A0 l0.length c0, .slice A1 l1.length c1] w fun e w' => e = .returned (.bool r) ∧ Drawn0 w w' := by
 have hu45 := Tryd.underlying45
 have HR0 := Aside0.mk hr0
 have HC0 := Aside0.mk hc0
 clear hr0 hc0
 have HR1 := Aside0.mk hr1
 have HC1 := Aside0.mk hc1
 clear hr1 hc1
 have H : (if (l0.length : Int) = (l1.length : Int) then (armadaref05_Ops.l0 k l0 l1 0) else (some false)) = some r := h
 clear h
 by_cases c3 : (l0.length : Int) = (l1.length : Int)
 ·rw [if_pos c3] at H
  have c3b0 : ((l0.length : Int) == (l1.length : Int)) = true := beq_iff_eq.mpr c3
  have c3b1 : ((l0.length : Int) != (l1.length : Int)) = false := bne_eq_false_iff_eq.mpr c3
  have c3b2 : (l0.length == l1.length) = true := by first | simpa using c3 | (simp at c3 ⊢; omega)
  clear c3
  have H' := Aside0.mk H
  clear H
  go_enter Tryd.func23, Tryd.ntmps23
  go_wp2
  repeat (go_quiet (fail); try go_wp2)
  go_loopg [5] k (fun kq v5 w' => ∃ (x5_1 : Int), v5 = .int .i64 x5_1 ∧ Aside0 (armadaref05_Ops.l0 kq l0 l1 x5_1 = some r) ∧ Aside0 (kq ≤ k) ∧ Drawn0 w w')
  case atStart => exact ⟨(0), eY, H', ⟨Nat.le_refl _⟩, by repeat (first | exact Drawn0.refl _ | apply Drawn0.step)⟩
  case round =>
   clear H'
   (try clear p2); (try clear c3b0); (try clear c3b1); (try clear c3b2)
   obtain ⟨x5_1, rfl, HA, HK1, ⟨m1, rfl⟩⟩ := hrel
   cases gk with
   | zero => exact absurd HA.out (by simp [armadaref05_Ops.l0])
   | succ k1 =>
    have H := HA.out
    clear HA
    simp only [armadaref05_Ops.l0] at H
    by_cases c4 : x5_1 < (l0.length : Int)
    ·rw [if_pos c4] at H
     have c4b0 : decide (x5_1 < (l0.length : Int)) = true := decide_eq_true c4
     clear c4
     by_cases c5 : 0 ≤ x5_1
     ·rw [if_pos c5] at H
      have c5b0 : decide (0 ≤ x5_1) = true := decide_eq_true c5
      clear c5
      by_cases c6 : x5_1 < (l1.length : Int)
      ·rw [if_pos c6] at H
       have c6b0 : decide (x5_1 < (l1.length : Int)) = true := decide_eq_true c6
       clear c6
       by_cases c7 : (!(((rd_T45 l0 x5_1).f0) == ((rd_T45 l1 x5_1).f0)) || (!((((rd_T45 l0 x5_1).f1).toList) == (((rd_T45 l1 x5_1).f1).toList)) || (!((((rd_T45 l0 x5_1).f2).toList) == (((rd_T45 l1 x5_1).f2).toList))))) = true
       ·rw [if_pos c7] at H
        have c7b0 : (!(((rd_T45 l0 x5_1).f0) == ((rd_T45 l1 x5_1).f0)) || (!((((rd_T45 l0 x5_1).f1).toList) == (((rd_T45 l1 x5_1).f1).toList)) || (!((((rd_T45 l0 x5_1).f2).toList) == (((rd_T45 l1 x5_1).f2).toList))))) = true := c7
        clear c7
        obtain rfl := Option.some.inj H
        have p261 : 0 ≤ (x5_1 : Int) := of_decide_eq_true aS
        have q261 : x5_1 < (l0.length : Int) := of_decide_eq_true aS
        obtain ⟨ad261, e261, hx261_0, hx261_1, hx261_2⟩ := at_T45 HR0.out x5_1 p261 q261
        cases e261
        replace p261 := eq_true p261
        replace q261 := eq_true q261
        have p262 : 0 ≤ (x5_1 : Int) := of_decide_eq_true aS
        have q262 : x5_1 < (l1.length : Int) := of_decide_eq_true aS
        obtain ⟨ad262, e262, hx262_0, hx262_1, hx262_2⟩ := at_T45 HR1.out x5_1 p262 q262
        cases e262
        replace p262 := eq_true p262
        replace q262 := eq_true q262
        go_wp2
        repeat (go_quiet (fail); try go_wp2)
        go_ret
        exact ⟨by first | rfl | (simp; done) | (simp [*]; done), by repeat (first | exact Drawn0.refl _ | apply Drawn0.step)⟩
       ·rw [if_neg c7] at H
        have c7b0 : (!(((rd_T45 l0 x5_1).f0) == ((rd_T45 l1 x5_1).f0)) || (!((((rd_T45 l0 x5_1).f1).toList) == (((rd_T45 l1 x5_1).f1).toList)) || (!((((rd_T45 l0 x5_1).f2).toList) == (((rd_T45 l1 x5_1).f2).toList))))) = false := by simpa using c7
        clear c7
        have H' := Aside0.mk H
        clear H
        have p261 : 0 ≤ (x5_1 : Int) := of_decide_eq_true aS
        have q261 : x5_1 < (l0.length : Int) := of_decide_eq_true aS
        obtain ⟨ad261, e261, hx261_0, hx261_1, hx261_2⟩ := at_T45 HR0.out x5_1 p261 q261
        cases e261
        replace p261 := eq_true p261
        replace q261 := eq_true q261
        have p262 : 0 ≤ (x5_1 : Int) := of_decide_eq_true aS
        have q262 : x5_1 < (l1.length : Int) := of_decide_eq_true aS
        obtain ⟨ad262, e262, hx262_0, hx262_1, hx262_2⟩ := at_T45 HR1.out x5_1 p262 q262
        cases e262
        replace p262 := eq_true p262
        replace q262 := eq_true q262
        go_wp2
        repeat (go_quiet (fail); try go_wp2)
        go_roundg k1
        case measure => have := HK1.out; omega
        case rel => exact ⟨(wrap64 (x5_1 + 1)), eY, H', ⟨by have := HK1.out; omega⟩, by repeat (first | exact Drawn0.refl _ | apply Drawn0.step)⟩
      ·rw [if_neg c6] at H
       exact absurd H (by simp)
     ·rw [if_neg c5] at H
      exact absurd H (by simp)
    ·rw [if_neg c4] at H
     have c4b0 : decide (x5_1 < (l0.length : Int)) = false := decide_eq_false c4
     clear c4
     obtain rfl := Option.some.inj H
     go_wp2
     repeat (go_quiet (fail); try go_wp2)
     go_ret
     exact ⟨by first | rfl | (simp; done) | (simp [*]; done), by repeat (first | exact Drawn0.refl _ | apply Drawn0.step)⟩
 ·rw [if_neg c3] at H
  have c3b0 : ((l0.length : Int) == (l1.length : Int)) = false := beq_eq_false_iff_ne.mpr c3
  have c3b1 : ((l0.length : Int) != (l1.length : Int)) = true := bne_iff_ne.mpr c3
  have c3b2 : (l0.length == l1.length) = false := by first | simpa using c3 | (simp at c3 ⊢; omega)
  obtain rfl := Option.some.inj H
  go_enter Tryd.func23, Tryd.ntmps23
  go_wp2
  repeat (go_quiet (fail); try go_wp2)
  go_ret
  exact ⟨by first | rfl | (simp; done) | (simp [*]; done), by repeat (first | exact Drawn0.refl _ | apply Drawn0.step)⟩
end
end Go.Proofs.YtnhhbmekjoanbaaDoor.P
