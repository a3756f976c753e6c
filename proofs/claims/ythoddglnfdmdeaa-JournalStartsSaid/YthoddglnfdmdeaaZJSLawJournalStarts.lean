/- A region that is started has a log of that generation; of a generation that none of its heads has, a log without items, that is clean: for every disk, region and generation (of at most 600 sectors, 200 writes, of 100 bytes). -/
import Derived.Test.YthoddglnfdmdeaaRows
import Derived.Test.YthoddglnfdmdeaaZJSH8
import Derived.WalkKit
import Derived.ProofKit
import Derived.OpenShut
import Derived.ShutString
import Derived.ChangeOld
import Derived.Below
import Derived.SizedLaws
namespace Go.Proofs.Ythoddglnfdmdeaa.journalStarts
open Go.ChangeShapes Go.WideShapes Go.ChangeAt Go.RowKit
open Go.ChangeMaps (open_string shut_string)
open Go.Proofs.YthoddglnfdmdeaaW.PrintWords Go.Proofs.YthoddglnfdmdeaaW.PrintLast Go.Proofs.YthoddglnfdmdeaaW.PrintMore
set_option linter.unusedVariables false
theorem own : ownKnob Try.prog.godebug = none := by kernel_rfl
theorem laidOut : laidOutB Try.prog = true := by kernel_rfl
set_option maxRecDepth 100000 in
theorem lifted (os : Os) (started : os.Started) (H : Type) (enc : TypeId × Value → H) :
    ReturnsInHanded {} Try.checked os 4 .any (Rows.journalStartsSpec.pre6 enc Try.prog Try.f4 Rows.journalStartsRow.domain false) (Rows.journalStartsSpec.post enc Try.prog Try.f4 false true false false) := by
  refine returnsInHanded_of_change_sized (C := Try.checked) own started (by kernel_rfl) Try.func4
    (ChangeSpec.witness6 (enc := enc) (C := Try.checked) false ⟨#[], #[.agg #[.slice none 0 0, .slice none 0 0], .agg #[.int .i64 0, .int .i64 0], .int .i64 0], []⟩ 8 (by kernel_rfl) (by kernel_rfl) (by kernel_rfl) (by kernel_rfl)) ?_
  intro W base args ds gs before hval0 hW hcnd hsz0 _
  have hsz : (DataW.weightsEach Try.prog (Try.f4.params.toList ++ Rows.journalStartsSpec.plain.varTypes Try.prog) (ds ++ gs)).all (· ≤ reachBytes) = true := hsz0
  have hval : ∀ (j : Nat) t v, Try.f4.params[j]? = some t → args[j]? = some v → Value.okWide Try.prog W .any base t v := hval0
  have hW' := hW
  obtain ⟨p, q, hA0, hV, rfl, hfz, hnd⟩ := hW
  have hA : DataW.TrodAll enc Try.prog W 0 (fun _ => true) true Try.f4.params.toList args.toList ds p := hA0
  rw [Try.params4] at hA hval hsz
  obtain ⟨v0, vs0, d0, ds0, p0, q0, hargs, rfl, rfl, h0, r0⟩ := trodAll_cons hA
  obtain ⟨v1, vs1, d1, ds1, p1, q1, rfl, rfl, rfl, h1, r1⟩ := trodAll_cons r0
  obtain ⟨v2, vs2, d2, ds2, p2, q2, rfl, rfl, rfl, h2, r2⟩ := trodAll_cons r1
  obtain ⟨rfl, rfl, rfl⟩ := trodAll_nil r2
  obtain rfl : args = #[v0, v1, v2] := by cases args; simp_all
  obtain ⟨rfl, rfl⟩ := trodVars_none hV
  have k0 := h0
  have lt0 := Op.lt_of_trod k0
  obtain ⟨s0, cs0, rfl, K0⟩ := Op.open_struct (Op.Cdc.struct Try.underlying25 (Op.Fl.cons (Op.Cdc.slice Try.underlying22 (by kernel_rfl) (Op.Cdc.str Try.underlying9 (by kernel_rfl))) rfl (Op.Fl.cons (Op.Cdc.slice Try.underlying23 (by kernel_rfl) ((Op.Cdc.struct Try.underlying29 (Op.Fl.cons (Op.Cdc.int Try.underlying3 (by kernel_rfl)) rfl (Op.Fl.cons (Op.Cdc.str Try.underlying9 (by kernel_rfl)) rfl Op.Fl.nil)) (by kernel_rfl)).map (fun s => (⟨s.1, s.2.1⟩ : P.S29)))) rfl Op.Fl.nil)) (by kernel_rfl)) Try.underlying25 (hval 0 25 v0 rfl rfl) h0 (Op.Light.arg hsz 0 rfl rfl)
  obtain ⟨_, _, rfl, ⟨rfl, gS, rS⟩, _, _, rfl, ⟨rfl, gC, rC⟩, rfl⟩ := K0
  have k1 := h1
  have lt1 := Op.lt_of_trod k1
  obtain ⟨s1, cs1, rfl, K1⟩ := Op.open_struct (Op.Cdc.struct Try.underlying27 (Op.Fl.cons (Op.Cdc.int Try.underlying3 (by kernel_rfl)) rfl (Op.Fl.cons (Op.Cdc.int Try.underlying3 (by kernel_rfl)) rfl Op.Fl.nil)) (by kernel_rfl)) Try.underlying27 (hval 1 27 v1 rfl rfl) h1 (Op.Light.arg hsz 1 rfl rfl)
  obtain ⟨_, _, rfl, ⟨rfl, _⟩, _, _, rfl, ⟨rfl, _⟩, rfl⟩ := K1
  obtain ⟨a2, rfl, rfl, rfl, w2⟩ := open_int Try.underlying3 (hval 2 3 v2 rfl rfl) h2
  clear hA0 hval0 hsz0 hsz
  obtain ⟨k, hk⟩ := Pure.JournalStarts s0.1.2.2 s0.2.1.2.2 s1.1 s1.2.1 a2 (Op.row_len rS) (Op.row_len rC)
  refine (P.armadalaw04_JournalStarts.calls k _ _ s0.1.2.2 _ _ s0.2.1.2.2 s1.1 s1.2.1 a2 true W (Op.row_C rS (fun _ _ h => h.1)) gS (Op.row_C rC (fun _ _ h => by obtain ⟨s, rfl, ⟨_, _, rfl, ⟨rfl, _⟩, _, _, rfl, ⟨rfl, _⟩, rfl⟩⟩ := h; exact P.k29_mk _ _)) gC hk).mono fun e W' ⟨he, bel⟩ => ?_
  subst he
  exact ⟨_, rfl, _, _, _, [], _, [], hW', trodAll_mk1 (shut_bool Try.underlying4 _), (trodAll_cons_mk (Below.trod laidOut (by kernel_rfl) (of_decide_eq_true (by kernel_rfl)) k0 bel lt0) (trodAll_cons_mk (Below.trod laidOut (by kernel_rfl) (of_decide_eq_true (by kernel_rfl)) k1 bel lt1) (trodAll_cons_mk (shut_int Try.underlying3 w2) trodAll_mk0))), rfl, bel.frame _, fun h => by cases h⟩
theorem over : Rows.journalStartsRow.holds Try.pinned (OpenSpec.ofChange Rows.journalStartsSpec) :=
  OpenClaim.holds_of_wide 4 Try.f4 rfl rfl rfl rfl rfl rfl rfl ⟨rfl, rfl, rfl, rfl, rfl⟩ rfl rfl rfl rfl rfl (by kernel_rfl) Try.func4 (by kernel_rfl)
    (of_decide_eq_true (by kernel_rfl)) (by unfold Func.isWrapper; first | (rw [if_pos (by decide +kernel)]; kernel_rfl) | (rw [if_neg (by decide +kernel)]; exact ⟨rfl, rfl⟩))
    (fun os started H enc _ => lifted os started H enc)
theorem proved : Rows.JournalStartsSaid := over
#print axioms proved
end Go.Proofs.Ythoddglnfdmdeaa.journalStarts
namespace Go.Proofs.Ythoddglnfdmdeaa
/-- The row, under a short name, for the claim. -/
theorem journalStarts_holds : Rows.JournalStartsSaid := journalStarts.proved
end Go.Proofs.Ythoddglnfdmdeaa
