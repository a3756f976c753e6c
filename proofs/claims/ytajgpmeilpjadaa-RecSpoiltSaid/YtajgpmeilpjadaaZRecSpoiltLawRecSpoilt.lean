/- A sector in which one byte changes is another head, or none; a payload's sector joins to another payload, or to none: for every head, payload, place and change (payloads of at most 200 bytes). -/
import Derived.Test.YtajgpmeilpjadaaRows
import Derived.Test.YtajgpmeilpjadaaZRecSpoiltLOpen
import Derived.Test.YtajgpmeilpjadaaZRecSpoiltPureRecSpoilt
import Derived.WalkKit
import Derived.ProofKit
import Derived.OpenShut
import Derived.ShutString
import Derived.ChangeOld
import Derived.Below
import Derived.SizedLaws
namespace Go.Proofs.Ytajgpmeilpjadaa.recSpoilt
open Go.ChangeShapes Go.WideShapes Go.ChangeAt Go.RowKit
open Go.ChangeMaps (open_string shut_string)
open Go.Proofs.YtajgpmeilpjadaaW.PrintWords Go.Proofs.YtajgpmeilpjadaaW.PrintLast Go.Proofs.YtajgpmeilpjadaaW.PrintMore
set_option linter.unusedVariables false
theorem own : ownKnob Try.prog.godebug = none := by kernel_rfl
theorem laidOut : laidOutB Try.prog = true := by kernel_rfl
set_option maxRecDepth 100000 in
theorem lifted (os : Os) (started : os.Started) (H : Type) (enc : TypeId × Value → H) :
    ReturnsInHanded {} Try.checked os 6 .any (Rows.recSpoiltSpec.pre6 enc Try.prog Try.f6 Rows.recSpoiltRow.domain false) (Rows.recSpoiltSpec.post enc Try.prog Try.f6 false true false false) := by
  refine returnsInHanded_of_change_sized (C := Try.checked) own started (by kernel_rfl) Try.func6
    (ChangeSpec.witness6 (enc := enc) (C := Try.checked) false ⟨#[], #[.agg #[.int .i64 0, .int .i64 0, .int .i64 0, .int .i64 0, .int .i64 0], .string ByteArray.empty, .agg #[.int .i64 0, .int .i64 0]], []⟩ 8 (by kernel_rfl) (by kernel_rfl) (by kernel_rfl) (by kernel_rfl)) ?_
  intro W base args ds gs before hval0 hW hcnd hsz0 _
  have hsz : (DataW.weightsEach Try.prog (Try.f6.params.toList ++ Rows.recSpoiltSpec.plain.varTypes Try.prog) (ds ++ gs)).all (· ≤ reachBytes) = true := hsz0
  have hval : ∀ (j : Nat) t v, Try.f6.params[j]? = some t → args[j]? = some v → Value.okWide Try.prog W .any base t v := hval0
  have hW' := hW
  obtain ⟨p, q, hA0, hV, rfl, hfz, hnd⟩ := hW
  have hA : DataW.TrodAll enc Try.prog W 0 (fun _ => true) true Try.f6.params.toList args.toList ds p := hA0
  rw [Try.params6] at hA hval hsz
  obtain ⟨v0, vs0, d0, ds0, p0, q0, hargs, rfl, rfl, h0, r0⟩ := trodAll_cons hA
  obtain ⟨v1, vs1, d1, ds1, p1, q1, rfl, rfl, rfl, h1, r1⟩ := trodAll_cons r0
  obtain ⟨v2, vs2, d2, ds2, p2, q2, rfl, rfl, rfl, h2, r2⟩ := trodAll_cons r1
  obtain ⟨rfl, rfl, rfl⟩ := trodAll_nil r2
  obtain rfl : args = #[v0, v1, v2] := by cases args; simp_all
  obtain ⟨rfl, rfl⟩ := trodVars_none hV
  have k0 := h0
  have lt0 := Op.lt_of_trod k0
  obtain ⟨s0, cs0, rfl, K0⟩ := Op.open_struct (Op.Cdc.struct Try.underlying23 (Op.Fl.cons (Op.Cdc.int Try.underlying3 (by kernel_rfl)) rfl (Op.Fl.cons (Op.Cdc.int Try.underlying3 (by kernel_rfl)) rfl (Op.Fl.cons (Op.Cdc.int Try.underlying3 (by kernel_rfl)) rfl (Op.Fl.cons (Op.Cdc.int Try.underlying3 (by kernel_rfl)) rfl (Op.Fl.cons (Op.Cdc.int Try.underlying3 (by kernel_rfl)) rfl Op.Fl.nil))))) (by kernel_rfl)) Try.underlying23 (hval 0 23 v0 rfl rfl) h0
  obtain ⟨_, _, rfl, ⟨rfl, w0_0⟩, ⟨_, _, rfl, ⟨rfl, w0_1⟩, ⟨_, _, rfl, ⟨rfl, w0_2⟩, ⟨_, _, rfl, ⟨rfl, w0_3⟩, ⟨_, _, rfl, ⟨rfl, w0_4⟩, rfl⟩⟩⟩⟩⟩ := K0
  obtain ⟨a1, rfl, rfl, rfl, y1⟩ := open_string Try.underlying9 (hval 1 9 v1 rfl rfl) h1
  have w1 : a1.size ≤ 140737488351232 := by
    have z := sized_string hsz (j := 1) (t := 9) rfl rfl
    rw [Array.length_toList] at z
    exact z
  have k2 := h2
  have lt2 := Op.lt_of_trod k2
  obtain ⟨x2, z2, rfl⟩ := Op.open_two Try.underlying43 Try.underlying3 (by kernel_rfl) (by kernel_rfl) (hval 2 43 v2 rfl rfl) h2
  clear hA0 hval0 hsz0 hsz
  refine (Pure.RecSpoilt _ _ _ _ _ a1 x2 z2 W (Op.i64_of_wf w0_4)).mono fun e W' ⟨he, bel⟩ => ?_
  subst he
  exact ⟨_, rfl, _, _, _, [], _, [], hW', trodAll_mk1 (shut_bool Try.underlying4 _), (trodAll_cons_mk (Below.trod laidOut (by kernel_rfl) (of_decide_eq_true (by kernel_rfl)) k0 bel lt0) (trodAll_cons_mk (shut_string Try.underlying9 y1) (trodAll_cons_mk (Below.trod laidOut (by kernel_rfl) (of_decide_eq_true (by kernel_rfl)) k2 bel lt2) trodAll_mk0))), rfl, bel.frame _, fun h => by cases h⟩
theorem over : Rows.recSpoiltRow.holds Try.pinned (OpenSpec.ofChange Rows.recSpoiltSpec) :=
  OpenClaim.holds_of_wide 6 Try.f6 rfl rfl rfl rfl rfl rfl rfl ⟨rfl, rfl, rfl, rfl, rfl⟩ rfl rfl rfl rfl rfl (by kernel_rfl) Try.func6 (by kernel_rfl)
    (of_decide_eq_true (by kernel_rfl)) (by unfold Func.isWrapper; first | (rw [if_pos (by decide +kernel)]; kernel_rfl) | (rw [if_neg (by decide +kernel)]; exact ⟨rfl, rfl⟩))
    (fun os started H enc _ => lifted os started H enc)
theorem proved : Rows.RecSpoiltSaid := over
#print axioms proved
end Go.Proofs.Ytajgpmeilpjadaa.recSpoilt
namespace Go.Proofs.Ytajgpmeilpjadaa
/-- The row, under a short name, for the claim. -/
theorem recSpoilt_holds : Rows.RecSpoiltSaid := recSpoilt.proved
end Go.Proofs.Ytajgpmeilpjadaa
