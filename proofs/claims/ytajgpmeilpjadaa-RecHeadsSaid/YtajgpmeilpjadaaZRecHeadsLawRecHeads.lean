/- The text of any head, the head of any bytes, and the head of any payload are the document's: for every head and every text (texts of at most 70000 bytes are compared). -/
import Derived.Test.YtajgpmeilpjadaaRows
import Derived.Test.YtajgpmeilpjadaaZRecHeadsLOpen
import Derived.Test.YtajgpmeilpjadaaZRecHeadsPureRecHeads
import Derived.WalkKit
import Derived.ProofKit
import Derived.OpenShut
import Derived.ShutString
import Derived.ChangeOld
import Derived.Below
import Derived.SizedLaws
namespace Go.Proofs.Ytajgpmeilpjadaa.recHeads
open Go.ChangeShapes Go.WideShapes Go.ChangeAt Go.RowKit
open Go.ChangeMaps (open_string shut_string)
open Go.Proofs.YtajgpmeilpjadaaW.PrintWords Go.Proofs.YtajgpmeilpjadaaW.PrintLast Go.Proofs.YtajgpmeilpjadaaW.PrintMore
set_option linter.unusedVariables false
theorem own : ownKnob Try.prog.godebug = none := by kernel_rfl
theorem laidOut : laidOutB Try.prog = true := by kernel_rfl
set_option maxRecDepth 100000 in
theorem lifted (os : Os) (started : os.Started) (H : Type) (enc : TypeId × Value → H) :
    ReturnsInHanded {} Try.checked os 3 .any (Rows.recHeadsSpec.pre6 enc Try.prog Try.f3 Rows.recHeadsRow.domain false) (Rows.recHeadsSpec.post enc Try.prog Try.f3 false true false false) := by
  refine returnsInHanded_of_change_sized (C := Try.checked) own started (by kernel_rfl) Try.func3
    (ChangeSpec.witness6 (enc := enc) (C := Try.checked) false ⟨#[], #[.agg #[.int .i64 0, .int .i64 0, .int .i64 0, .int .i64 0, .int .i64 0], .string ByteArray.empty], []⟩ 8 (by kernel_rfl) (by kernel_rfl) (by kernel_rfl) (by kernel_rfl)) ?_
  intro W base args ds gs before hval0 hW hcnd hsz0 _
  have hsz : (DataW.weightsEach Try.prog (Try.f3.params.toList ++ Rows.recHeadsSpec.plain.varTypes Try.prog) (ds ++ gs)).all (· ≤ reachBytes) = true := hsz0
  have hval : ∀ (j : Nat) t v, Try.f3.params[j]? = some t → args[j]? = some v → Value.okWide Try.prog W .any base t v := hval0
  have hW' := hW
  obtain ⟨p, q, hA0, hV, rfl, hfz, hnd⟩ := hW
  have hA : DataW.TrodAll enc Try.prog W 0 (fun _ => true) true Try.f3.params.toList args.toList ds p := hA0
  rw [Try.params3] at hA hval hsz
  obtain ⟨v0, vs0, d0, ds0, p0, q0, hargs, rfl, rfl, h0, r0⟩ := trodAll_cons hA
  obtain ⟨v1, vs1, d1, ds1, p1, q1, rfl, rfl, rfl, h1, r1⟩ := trodAll_cons r0
  obtain ⟨rfl, rfl, rfl⟩ := trodAll_nil r1
  obtain rfl : args = #[v0, v1] := by cases args; simp_all
  obtain ⟨rfl, rfl⟩ := trodVars_none hV
  have k0 := h0
  have lt0 := Op.lt_of_trod k0
  obtain ⟨s0, cs0, rfl, K0⟩ := Op.open_struct (Op.Cdc.struct Try.underlying23 (Op.Fl.cons (Op.Cdc.int Try.underlying3 (by kernel_rfl)) rfl (Op.Fl.cons (Op.Cdc.int Try.underlying3 (by kernel_rfl)) rfl (Op.Fl.cons (Op.Cdc.int Try.underlying3 (by kernel_rfl)) rfl (Op.Fl.cons (Op.Cdc.int Try.underlying3 (by kernel_rfl)) rfl (Op.Fl.cons (Op.Cdc.int Try.underlying3 (by kernel_rfl)) rfl Op.Fl.nil))))) (by kernel_rfl)) Try.underlying23 (hval 0 23 v0 rfl rfl) h0
  obtain ⟨_, _, rfl, ⟨rfl, w0_0⟩, ⟨_, _, rfl, ⟨rfl, w0_1⟩, ⟨_, _, rfl, ⟨rfl, w0_2⟩, ⟨_, _, rfl, ⟨rfl, w0_3⟩, ⟨_, _, rfl, ⟨rfl, w0_4⟩, rfl⟩⟩⟩⟩⟩ := K0
  obtain ⟨a1, rfl, rfl, rfl, y1⟩ := open_string Try.underlying9 (hval 1 9 v1 rfl rfl) h1
  have w1 : a1.size ≤ 140737488351232 := by
    have z := sized_string hsz (j := 1) (t := 9) rfl rfl
    rw [Array.length_toList] at z
    exact z
  clear hA0 hval0 hsz0 hsz
  obtain ⟨k, hk⟩ := Pure.RecHeads _ _ _ _ _ a1 (Op.i64_of_wf w0_4) w1
  refine (P.armadalaw03_RecHeads.calls k _ _ _ _ _ a1 true W hk).mono fun e W' ⟨he, bel⟩ => ?_
  subst he
  exact ⟨_, rfl, _, _, _, [], _, [], hW', trodAll_mk1 (shut_bool Try.underlying4 _), (trodAll_cons_mk (Below.trod laidOut (by kernel_rfl) (of_decide_eq_true (by kernel_rfl)) k0 bel lt0) (trodAll_cons_mk (shut_string Try.underlying9 y1) trodAll_mk0)), rfl, bel.frame _, fun h => by cases h⟩
theorem over : Rows.recHeadsRow.holds Try.pinned (OpenSpec.ofChange Rows.recHeadsSpec) :=
  OpenClaim.holds_of_wide 3 Try.f3 rfl rfl rfl rfl rfl rfl rfl ⟨rfl, rfl, rfl, rfl, rfl⟩ rfl rfl rfl rfl rfl (by kernel_rfl) Try.func3 (by kernel_rfl)
    (of_decide_eq_true (by kernel_rfl)) (by unfold Func.isWrapper; first | (rw [if_pos (by decide +kernel)]; kernel_rfl) | (rw [if_neg (by decide +kernel)]; exact ⟨rfl, rfl⟩))
    (fun os started H enc _ => lifted os started H enc)
theorem proved : Rows.RecHeadsSaid := over
#print axioms proved
end Go.Proofs.Ytajgpmeilpjadaa.recHeads
namespace Go.Proofs.Ytajgpmeilpjadaa
/-- The row, under a short name, for the claim. -/
theorem recHeads_holds : Rows.RecHeadsSaid := recHeads.proved
end Go.Proofs.Ytajgpmeilpjadaa
