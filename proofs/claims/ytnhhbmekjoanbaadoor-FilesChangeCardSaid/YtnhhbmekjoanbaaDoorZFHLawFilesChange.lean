/- What comes of any files by any ops, and the ops by which any files come of any others, are the document's: for every files and ops (of at most 60 files, 100 ops, of 5000 bytes, paths of 200). -/
import Derived.Test.YtnhhbmekjoanbaaDoorRows
import Derived.Test.YtnhhbmekjoanbaaDoorZFHH6
import Derived.WalkKit
import Derived.ProofKit
import Derived.OpenShut
import Derived.ShutString
import Derived.ChangeOld
import Derived.Below
import Derived.SizedLaws
import Derived.Test.YtnhhbmekjoanbaaDoorTie
import Derived.Test.YtnhhbmekjoanbaaDoorCards
import Derived.Lay
import Derived.LaidOnce
import Derived.SevenTiedAt
namespace Go.Proofs.YtnhhbmekjoanbaaDoor.filesChange
open Go.ChangeShapes Go.WideShapes Go.ChangeAt Go.RowKit
open Go.ChangeMaps (open_string shut_string)
open Go.Proofs.YtnhhbmekjoanbaaDoorW.PrintWords Go.Proofs.YtnhhbmekjoanbaaDoorW.PrintLast Go.Proofs.YtnhhbmekjoanbaaDoorW.PrintMore
set_option linter.unusedVariables false
theorem own : ownKnob Tryd.prog.godebug = none := by kernel_rfl
theorem laidOut : laidOutB Tryd.prog = true := by kernel_rfl
set_option maxRecDepth 100000 in
theorem lifted (os : Os) (started : os.Started) (H : Type) (enc : TypeId × Value → H) :
    ReturnsInHanded {} Tryd.checked os 4 .any (fun w args => (Rows.filesChangeSpec.pre enc Tryd.prog Tryd.f4 [] false w args ∧ laidMetH Tryd.prog Rows.filesChangeRow.laid w) ∧ sizedMet enc Tryd.prog Tryd.f4 (OpenSpec.ofChange Rows.filesChangeSpec) false w args) (Rows.filesChangeSpec.post enc Tryd.prog Tryd.f4 false true false false) := by
  refine returnsInHanded_of_change_and (C := Tryd.checked) (X := fun w _ => laidMetH Tryd.prog Rows.filesChangeRow.laid w) (fun _ _ _ hh h => h.of_heap hh) own started (by kernel_rfl) Tryd.func4
    (ChangeSpec.witness_shaped (enc := enc) (C := Tryd.checked) (os := os) (X := fun w _ => laidMetH Tryd.prog Rows.filesChangeRow.laid w) false (World.laidAll Tryd.prog os Rows.filesChangeRow.laid) #[.slice none 0 0, .slice none 0 0, .slice none 0 0] 8 (World.laidAll_os _ _ _)
      (World.shaped_of_ZipB (by kernel_rfl) (by kernel_rfl)) (by kernel_rfl) (by kernel_rfl) (by kernel_rfl)
      (by rw [MakeChecks.laidMetH_plain _ _ _ (by kernel_rfl)]; exact laidMet_laidAll _ (by kernel_rfl) (by kernel_rfl))) ?_
  intro W base args ds gs before hval0 hW hcnd hsz0 _ _
  have hsz : (DataW.weightsEach Tryd.prog (Tryd.f4.params.toList ++ Rows.filesChangeSpec.plain.varTypes Tryd.prog) (ds ++ gs)).all (· ≤ reachBytes) = true := hsz0
  have hval : ∀ (j : Nat) t v, Tryd.f4.params[j]? = some t → args[j]? = some v → Value.okWide Tryd.prog W .any base t v := hval0
  have hW' := hW
  obtain ⟨p, q, hA0, hV, rfl, hfz, hnd⟩ := hW
  have hA : DataW.TrodAll enc Tryd.prog W 0 (fun _ => true) true Tryd.f4.params.toList args.toList ds p := hA0
  rw [Tryd.params4] at hA hval hsz
  obtain ⟨v0, vs0, d0, ds0, p0, q0, hargs, rfl, rfl, h0, r0⟩ := trodAll_cons hA
  obtain ⟨v1, vs1, d1, ds1, p1, q1, rfl, rfl, rfl, h1, r1⟩ := trodAll_cons r0
  obtain ⟨v2, vs2, d2, ds2, p2, q2, rfl, rfl, rfl, h2, r2⟩ := trodAll_cons r1
  obtain ⟨rfl, rfl, rfl⟩ := trodAll_nil r2
  obtain rfl : args = #[v0, v1, v2] := by cases args; simp_all
  obtain ⟨rfl, rfl⟩ := trodVars_none hV
  have k0 := h0
  have lt0 := Op.lt_of_trod k0
  obtain ⟨⟨A0, c0, l0⟩, K0⟩ := Op.open_row (Op.Cdc.slice Tryd.underlying22 (by kernel_rfl) ((Op.Cdc.struct Tryd.underlying49 (Op.Fl.cons (Op.Cdc.str Tryd.underlying9 (by kernel_rfl)) rfl (Op.Fl.cons (Op.Cdc.str Tryd.underlying9 (by kernel_rfl)) rfl Op.Fl.nil)) (by kernel_rfl)).map (fun s => (⟨s.1, s.2.1⟩ : P.S49)))) Tryd.underlying22 (hval 0 22 v0 rfl rfl) h0 (Op.Light.arg hsz 0 rfl rfl)
  obtain ⟨e0, hc0, hr0⟩ := K0
  obtain rfl := (List.cons.inj e0).1
  have k1 := h1
  have lt1 := Op.lt_of_trod k1
  obtain ⟨⟨A1, c1, l1⟩, K1⟩ := Op.open_row (Op.Cdc.slice Tryd.underlying30 (by kernel_rfl) ((Op.Cdc.struct Tryd.underlying45 (Op.Fl.cons (Op.Cdc.bool Tryd.underlying4 (by kernel_rfl)) rfl (Op.Fl.cons (Op.Cdc.str Tryd.underlying9 (by kernel_rfl)) rfl (Op.Fl.cons (Op.Cdc.str Tryd.underlying9 (by kernel_rfl)) rfl Op.Fl.nil))) (by kernel_rfl)).map (fun s => (⟨s.1, s.2.1, s.2.2.1⟩ : P.S45)))) Tryd.underlying30 (hval 1 30 v1 rfl rfl) h1 (Op.Light.arg hsz 1 rfl rfl)
  obtain ⟨e1, hc1, hr1⟩ := K1
  obtain rfl := (List.cons.inj e1).1
  have k2 := h2
  have lt2 := Op.lt_of_trod k2
  obtain ⟨⟨A2, c2, l2⟩, K2⟩ := Op.open_row (Op.Cdc.slice Tryd.underlying22 (by kernel_rfl) ((Op.Cdc.struct Tryd.underlying49 (Op.Fl.cons (Op.Cdc.str Tryd.underlying9 (by kernel_rfl)) rfl (Op.Fl.cons (Op.Cdc.str Tryd.underlying9 (by kernel_rfl)) rfl Op.Fl.nil)) (by kernel_rfl)).map (fun s => (⟨s.1, s.2.1⟩ : P.S49)))) Tryd.underlying22 (hval 2 22 v2 rfl rfl) h2 (Op.Light.arg hsz 2 rfl rfl)
  obtain ⟨e2, hc2, hr2⟩ := K2
  obtain rfl := (List.cons.inj e2).1
  clear hA0 hval0 hsz0 hsz
  obtain ⟨k, hk⟩ := Pure.FilesChange l0 l1 l2 (Op.row_len hr0) (Op.row_len hr1) (Op.row_len hr2)
  refine (P.armadalaw05_FilesChange.calls k A0 c0 l0 A1 c1 l1 A2 c2 l2 true W (Op.row_C hr0 (fun _ _ h => by obtain ⟨s, rfl, ⟨_, _, rfl, ⟨rfl, _⟩, _, _, rfl, ⟨rfl, _⟩, rfl⟩⟩ := h; exact P.k49_mk _ _)) hc0 (Op.row_C hr1 (fun _ _ h => by obtain ⟨s, rfl, ⟨_, _, rfl, ⟨rfl, _⟩, _, _, rfl, ⟨rfl, _⟩, _, _, rfl, ⟨rfl, _⟩, rfl⟩⟩ := h; exact P.k45_mk _ _)) hc1 (Op.row_C hr2 (fun _ _ h => by obtain ⟨s, rfl, ⟨_, _, rfl, ⟨rfl, _⟩, _, _, rfl, ⟨rfl, _⟩, rfl⟩⟩ := h; exact P.k49_mk _ _)) hc2 hk).mono fun e W' ⟨he, bel⟩ => ?_
  subst he
  exact ⟨_, rfl, _, _, _, [], _, [], hW', trodAll_mk1 (shut_bool Tryd.underlying4 _), (trodAll_cons_mk (Below.trod laidOut (by kernel_rfl) (of_decide_eq_true (by kernel_rfl)) k0 bel lt0) (trodAll_cons_mk (Below.trod laidOut (by kernel_rfl) (of_decide_eq_true (by kernel_rfl)) k1 bel lt1) (trodAll_cons_mk (Below.trod laidOut (by kernel_rfl) (of_decide_eq_true (by kernel_rfl)) k2 bel lt2) trodAll_mk0))), rfl, bel.frame _, fun h => by cases h⟩
theorem over : Rows.filesChangeRow.holds Tryd.pinned (OpenSpec.ofChange Rows.filesChangeSpec) :=
  OpenClaim.holds_of_wide 4 Tryd.f4 rfl rfl rfl rfl rfl rfl rfl ⟨rfl, rfl, rfl, rfl, rfl⟩ rfl rfl rfl rfl rfl (by kernel_rfl) Tryd.func4 (by kernel_rfl)
    (of_decide_eq_true (by kernel_rfl)) (by unfold Func.isWrapper; first | (rw [if_pos (by decide +kernel)]; kernel_rfl) | (rw [if_neg (by decide +kernel)]; exact ⟨rfl, rfl⟩))
    (fun os started H enc _ => lifted os started H enc)
set_option maxRecDepth 100000 in
theorem card_holds : Rows.FilesChangeCardSaid :=
  Claim7.holds_tied_plain_at .later [] [.data, .pinned] true (true, "ee8727feae1a63f8d1d0031e31c5ba417b4dd6d24753dcefc8799ff2e35956a1") false over (fun _ h => by cases h) (by kernel_rfl) (fun _ h => by cases h) filesChange_row_tie rfl ⟨rfl, rfl⟩ (by kernel_rfl) rfl
    (fun f fn hf hfn => by
      obtain rfl : f = 4 := Option.some.inj ((show Tryd.prog.funcNamed "armada/armadalaw05.FilesChange" = some 4 by kernel_rfl).symm.trans hf) |>.symm
      obtain rfl : fn = Tryd.f4 := (Option.some.inj (Tryd.func4.symm.trans hfn)).symm
      exact ⟨by kernel_rfl, fun j t ht => by
        rw [Tryd.params4] at ht
        have hm : t ∈ [22, 30, 22] := by simpa using Array.mem_of_getElem? ht
        have hall : ([22, 30, 22].all fun u => !Tryd.prog.wantsStandIn u) = true := by kernel_rfl
        exact (show Tryd.prog.wantsStandIn t = false by simpa using List.all_eq_true.1 hall t hm)⟩)
    (by kernel_rfl)
theorem proved : Rows.FilesChangeCardSaid := card_holds
#print axioms proved
end Go.Proofs.YtnhhbmekjoanbaaDoor.filesChange
namespace Go.Proofs.YtnhhbmekjoanbaaDoor
/-- The row, under a short name, for the claim. -/
theorem filesChange_holds : Rows.FilesChangeCardSaid := filesChange.proved
end Go.Proofs.YtnhhbmekjoanbaaDoor
