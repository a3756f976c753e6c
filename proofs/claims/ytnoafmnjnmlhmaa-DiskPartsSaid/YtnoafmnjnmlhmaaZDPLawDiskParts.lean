/- Acts that are done in two parts are done as at once; a flush behind a flush changes nothing: for every disk, every list of acts and every place (of at most 600 sectors, 200 writes, 200 acts, of 100 bytes). -/
import Derived.Test.YtnoafmnjnmlhmaaRows
import Derived.Test.YtnoafmnjnmlhmaaZDPLOpenB
import Derived.Test.YtnoafmnjnmlhmaaZDPPureDiskParts
import Derived.WalkKit
import Derived.ProofKit
import Derived.OpenShut
import Derived.ShutString
import Derived.ChangeOld
import Derived.Below
import Derived.SizedLaws
namespace Go.Proofs.Ytnoafmnjnmlhmaa.diskParts
open Go.ChangeShapes Go.WideShapes Go.ChangeAt Go.RowKit
open Go.ChangeMaps (open_string shut_string)
open Go.Proofs.YtnoafmnjnmlhmaaW.PrintWords Go.Proofs.YtnoafmnjnmlhmaaW.PrintLast Go.Proofs.YtnoafmnjnmlhmaaW.PrintMore
set_option linter.unusedVariables false
theorem own : ownKnob Try.prog.godebug = none := by kernel_rfl
theorem laidOut : laidOutB Try.prog = true := by kernel_rfl
set_option maxRecDepth 100000 in
theorem lifted (os : Os) (started : os.Started) (H : Type) (enc : TypeId × Value → H) :
    ReturnsInHanded {} Try.checked os 7 .any (Rows.diskPartsSpec.pre6 enc Try.prog Try.f7 Rows.diskPartsRow.domain false) (Rows.diskPartsSpec.post enc Try.prog Try.f7 false true false false) := by
  refine returnsInHanded_of_change_sized (C := Try.checked) own started (by kernel_rfl) Try.func7
    (ChangeSpec.witness6 (enc := enc) (C := Try.checked) false ⟨#[], #[.agg #[.slice none 0 0, .slice none 0 0], .slice none 0 0, .int .i64 0], []⟩ 8 (by kernel_rfl) (by kernel_rfl) (by kernel_rfl) (by kernel_rfl)) ?_
  intro W base args ds gs before hval0 hW hcnd hsz0 _
  have hsz : (DataW.weightsEach Try.prog (Try.f7.params.toList ++ Rows.diskPartsSpec.plain.varTypes Try.prog) (ds ++ gs)).all (· ≤ reachBytes) = true := hsz0
  have hval : ∀ (j : Nat) t v, Try.f7.params[j]? = some t → args[j]? = some v → Value.okWide Try.prog W .any base t v := hval0
  have hW' := hW
  obtain ⟨p, q, hA0, hV, rfl, hfz, hnd⟩ := hW
  have hA : DataW.TrodAll enc Try.prog W 0 (fun _ => true) true Try.f7.params.toList args.toList ds p := hA0
  rw [Try.params7] at hA hval hsz
  obtain ⟨v0, vs0, d0, ds0, p0, q0, hargs, rfl, rfl, h0, r0⟩ := trodAll_cons hA
  obtain ⟨v1, vs1, d1, ds1, p1, q1, rfl, rfl, rfl, h1, r1⟩ := trodAll_cons r0
  obtain ⟨v2, vs2, d2, ds2, p2, q2, rfl, rfl, rfl, h2, r2⟩ := trodAll_cons r1
  obtain ⟨rfl, rfl, rfl⟩ := trodAll_nil r2
  obtain rfl : args = #[v0, v1, v2] := by cases args; simp_all
  obtain ⟨rfl, rfl⟩ := trodVars_none hV
  have k0 := h0
  have lt0 := Op.lt_of_trod k0
  obtain ⟨s0, cs0, rfl, K0⟩ := Op.open_struct (Op.Cdc.struct Try.underlying25 (Op.Fl.cons (Op.Cdc.slice Try.underlying22 (by kernel_rfl) (Op.Cdc.str Try.underlying9 (by kernel_rfl))) rfl (Op.Fl.cons (Op.Cdc.slice Try.underlying23 (by kernel_rfl) ((Op.Cdc.struct Try.underlying27 (Op.Fl.cons (Op.Cdc.int Try.underlying3 (by kernel_rfl)) rfl (Op.Fl.cons (Op.Cdc.str Try.underlying9 (by kernel_rfl)) rfl Op.Fl.nil)) (by kernel_rfl)).map (fun s => (⟨s.1, s.2.1⟩ : P.S27)))) rfl Op.Fl.nil)) (by kernel_rfl)) Try.underlying25 (hval 0 25 v0 rfl rfl) h0 (Op.Light.arg hsz 0 rfl rfl)
  obtain ⟨_, _, rfl, ⟨rfl, gS, rS⟩, _, _, rfl, ⟨rfl, gC, rC⟩, rfl⟩ := K0
  have k1 := h1
  have lt1 := Op.lt_of_trod k1
  obtain ⟨⟨A1, c1, l1⟩, K1⟩ := Op.open_row (Op.Cdc.slice Try.underlying44 (by kernel_rfl) ((Op.Cdc.struct Try.underlying49 (Op.Fl.cons (Op.Cdc.bool Try.underlying4 (by kernel_rfl)) rfl (Op.Fl.cons (Op.Cdc.int Try.underlying3 (by kernel_rfl)) rfl (Op.Fl.cons (Op.Cdc.str Try.underlying9 (by kernel_rfl)) rfl Op.Fl.nil))) (by kernel_rfl)).map (fun s => (⟨s.1, s.2.1, s.2.2.1⟩ : P.S49)))) Try.underlying44 (hval 1 44 v1 rfl rfl) h1 (Op.Light.arg hsz 1 rfl rfl)
  obtain ⟨e1, hc1, hr1⟩ := K1
  obtain rfl := (List.cons.inj e1).1
  obtain ⟨a2, rfl, rfl, rfl, w2⟩ := open_int Try.underlying3 (hval 2 3 v2 rfl rfl) h2
  clear hA0 hval0 hsz0 hsz
  obtain ⟨k, hk⟩ := Pure.DiskParts s0.1.2.2 s0.2.1.2.2 l1 a2 (Op.row_len rS) (Op.row_len rC) (Op.row_len hr1)
  refine (P.armadalaw01_DiskParts.calls k _ _ s0.1.2.2 _ _ s0.2.1.2.2 A1 c1 l1 a2 true W (Op.row_C rS (fun _ _ h => h.1)) gS (Op.row_C rC (fun _ _ h => by obtain ⟨s, rfl, ⟨_, _, rfl, ⟨rfl, _⟩, _, _, rfl, ⟨rfl, _⟩, rfl⟩⟩ := h; exact P.k27_mk _ _)) gC (Op.row_C hr1 (fun _ _ h => by obtain ⟨s, rfl, ⟨_, _, rfl, rfl, _, _, rfl, ⟨rfl, _⟩, _, _, rfl, ⟨rfl, _⟩, rfl⟩⟩ := h; exact P.k49_mk _ _)) hc1 hk).mono fun e W' ⟨he, bel⟩ => ?_
  subst he
  exact ⟨_, rfl, _, _, _, [], _, [], hW', trodAll_mk1 (shut_bool Try.underlying4 _), (trodAll_cons_mk (Below.trod laidOut (by kernel_rfl) (of_decide_eq_true (by kernel_rfl)) k0 bel lt0) (trodAll_cons_mk (Below.trod laidOut (by kernel_rfl) (of_decide_eq_true (by kernel_rfl)) k1 bel lt1) (trodAll_cons_mk (shut_int Try.underlying3 w2) trodAll_mk0))), rfl, bel.frame _, fun h => by cases h⟩
theorem over : Rows.diskPartsRow.holds Try.pinned (OpenSpec.ofChange Rows.diskPartsSpec) :=
  OpenClaim.holds_of_wide 7 Try.f7 rfl rfl rfl rfl rfl rfl rfl ⟨rfl, rfl, rfl, rfl, rfl⟩ rfl rfl rfl rfl rfl (by kernel_rfl) Try.func7 (by kernel_rfl)
    (of_decide_eq_true (by kernel_rfl)) (by unfold Func.isWrapper; first | (rw [if_pos (by decide +kernel)]; kernel_rfl) | (rw [if_neg (by decide +kernel)]; exact ⟨rfl, rfl⟩))
    (fun os started H enc _ => lifted os started H enc)
theorem proved : Rows.DiskPartsSaid := over
#print axioms proved
end Go.Proofs.Ytnoafmnjnmlhmaa.diskParts
namespace Go.Proofs.Ytnoafmnjnmlhmaa
/-- The row, under a short name, for the claim. -/
theorem diskParts_holds : Rows.DiskPartsSaid := diskParts.proved
end Go.Proofs.Ytnoafmnjnmlhmaa
