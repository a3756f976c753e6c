/- The order of any two versions, what any one is bumped to and the greatest one of a list are the document's: for every list (of at most 60 versions of 200 bytes) and every level. -/
import Derived.Test.YthoiepkejhhcoaaDoorRows
import Derived.Test.YthoiepkejhhcoaaDoorZVQLOpenB
import Derived.Test.YthoiepkejhhcoaaDoorZVQPureVerOrder
import Derived.Test.YthoiepkejhhcoaaDoorZVQVLaid
import Derived.WalkKit
import Derived.ProofKit
import Derived.OpenShut
import Derived.ShutString
import Derived.ChangeOld
import Derived.Below
import Derived.SizedLaws
import Derived.Test.YthoiepkejhhcoaaDoorTie
import Derived.Test.YthoiepkejhhcoaaDoorCards
import Derived.Lay
import Derived.LaidOnce
import Derived.SevenTiedAt
namespace Go.Proofs.YthoiepkejhhcoaaDoor.verOrder
open Go.ChangeShapes Go.WideShapes Go.ChangeAt Go.RowKit
open Go.ChangeMaps (open_string shut_string)
open Go.Proofs.YthoiepkejhhcoaaDoorW.PrintWords Go.Proofs.YthoiepkejhhcoaaDoorW.PrintLast Go.Proofs.YthoiepkejhhcoaaDoorW.PrintMore
set_option linter.unusedVariables false
theorem own : ownKnob Tryd.prog.godebug = none := by kernel_rfl
theorem laidOut : laidOutB Tryd.prog = true := by kernel_rfl
set_option maxRecDepth 100000 in
theorem lifted (os : Os) (started : os.Started) (H : Type) (enc : TypeId × Value → H) :
    ReturnsInHanded {} Tryd.checked os 4 .any (fun w args => (Rows.verOrderSpec.pre enc Tryd.prog Tryd.f4 [] false w args ∧ laidMetH Tryd.prog Rows.verOrderRow.laid w) ∧ sizedMet enc Tryd.prog Tryd.f4 (OpenSpec.ofChange Rows.verOrderSpec) false w args) (Rows.verOrderSpec.post enc Tryd.prog Tryd.f4 false true false false) := by
  refine returnsInHanded_of_change_and (C := Tryd.checked) (X := fun w _ => laidMetH Tryd.prog Rows.verOrderRow.laid w) (fun _ _ _ hh h => h.of_heap hh) own started (by kernel_rfl) Tryd.func4
    (ChangeSpec.witness_shaped (enc := enc) (C := Tryd.checked) (os := os) (X := fun w _ => laidMetH Tryd.prog Rows.verOrderRow.laid w) false (World.laidAll Tryd.prog os Rows.verOrderRow.laid) #[.slice none 0 0, .int .i64 0] 8 (World.laidAll_os _ _ _)
      (World.shaped_of_ZipB (by kernel_rfl) (by kernel_rfl)) (by kernel_rfl) (by kernel_rfl) (by kernel_rfl)
      (by rw [MakeChecks.laidMetH_plain _ _ _ (by kernel_rfl)]; exact laidMet_laidAll _ (by kernel_rfl) (by kernel_rfl))) ?_
  intro W base args ds gs before hval0 hW hcnd hsz0 hX0 _
  have hsz : (DataW.weightsEach Tryd.prog (Tryd.f4.params.toList ++ Rows.verOrderSpec.plain.varTypes Tryd.prog) (ds ++ gs)).all (· ≤ reachBytes) = true := hsz0
  have hval : ∀ (j : Nat) t v, Tryd.f4.params[j]? = some t → args[j]? = some v → Value.okWide Tryd.prog W .any base t v := hval0
  have hW' := hW
  obtain ⟨p, q, hA0, hV, rfl, hfz, hnd⟩ := hW
  have hA : DataW.TrodAll enc Tryd.prog W 0 (fun _ => true) true Tryd.f4.params.toList args.toList ds p := hA0
  rw [Tryd.params4] at hA hval hsz
  obtain ⟨v0, vs0, d0, ds0, p0, q0, hargs, rfl, rfl, h0, r0⟩ := trodAll_cons hA
  obtain ⟨v1, vs1, d1, ds1, p1, q1, rfl, rfl, rfl, h1, r1⟩ := trodAll_cons r0
  obtain ⟨rfl, rfl, rfl⟩ := trodAll_nil r1
  obtain rfl : args = #[v0, v1] := by cases args; simp_all
  obtain ⟨rfl, rfl⟩ := trodVars_none hV
  have k0 := h0
  have lt0 := Op.lt_of_trod k0
  obtain ⟨⟨A0, c0, l0⟩, K0⟩ := Op.open_row (Op.Cdc.slice Tryd.underlying30 (by kernel_rfl) ((Op.Cdc.struct Tryd.underlying23 (Op.Fl.cons (Op.Cdc.int Tryd.underlying3 (by kernel_rfl)) rfl (Op.Fl.cons (Op.Cdc.int Tryd.underlying3 (by kernel_rfl)) rfl (Op.Fl.cons (Op.Cdc.int Tryd.underlying3 (by kernel_rfl)) rfl (Op.Fl.cons (Op.Cdc.str Tryd.underlying9 (by kernel_rfl)) rfl (Op.Fl.cons (Op.Cdc.str Tryd.underlying9 (by kernel_rfl)) rfl Op.Fl.nil))))) (by kernel_rfl)).map (fun s => (⟨s.1, s.2.1, s.2.2.1, s.2.2.2.1, s.2.2.2.2.1⟩ : P.S23)))) Tryd.underlying30 (hval 0 30 v0 rfl rfl) h0 (Op.Light.arg hsz 0 rfl rfl)
  obtain ⟨e0, hc0, hr0⟩ := K0
  obtain rfl := (List.cons.inj e0).1
  obtain ⟨a1, rfl, rfl, rfl, w1⟩ := open_int Tryd.underlying3 (hval 1 3 v1 rfl rfl) h1
  clear hA0 hval0 hsz0 hsz
  obtain ⟨k, hk⟩ := Pure.VerOrder l0 a1
  refine (P.armadalaw07_VerOrder.calls k A0 c0 l0 a1 true W (Op.row_C hr0 (fun _ _ h => by obtain ⟨s, rfl, _, _, rfl, ⟨rfl, _⟩, _, _, rfl, ⟨rfl, _⟩, _, _, rfl, ⟨rfl, _⟩, _, _, rfl, ⟨rfl, P0⟩, _, _, rfl, ⟨rfl, Q0⟩, rfl⟩ := h; exact P.k23_mk _ _)) hc0 hk rfl (LW0 := P.LaidW.of_laid hX0)).mono fun e W' ⟨he, bel⟩ => ?_
  subst he
  exact ⟨_, rfl, _, _, _, [], _, [], hW', trodAll_mk1 (shut_bool Tryd.underlying4 _), (trodAll_cons_mk (Below.trod laidOut (by kernel_rfl) (of_decide_eq_true (by kernel_rfl)) k0 bel lt0) (trodAll_cons_mk (shut_int Tryd.underlying3 w1) trodAll_mk0)), rfl, bel.frame _, fun h => by cases h⟩
theorem over : Rows.verOrderRow.holds Tryd.pinned (OpenSpec.ofChange Rows.verOrderSpec) :=
  OpenClaim.holds_of_wide 4 Tryd.f4 rfl rfl rfl rfl rfl rfl rfl ⟨rfl, rfl, rfl, rfl, rfl⟩ rfl rfl rfl rfl rfl (by kernel_rfl) Tryd.func4 (by kernel_rfl)
    (of_decide_eq_true (by kernel_rfl)) (by unfold Func.isWrapper; first | (rw [if_pos (by decide +kernel)]; kernel_rfl) | (rw [if_neg (by decide +kernel)]; exact ⟨rfl, rfl⟩))
    (fun os started H enc _ => lifted os started H enc)
set_option maxRecDepth 100000 in
theorem card_holds : Rows.VerOrderCardSaid :=
  Claim7.holds_tied_plain_at .later [] [.data, .data, .data, .data, .sentinel, .sentinel, .pinned] true (true, "9e7edf58c79726769a1360b2a4a3c4c3d3eb9982a67962cb0991b218cb4beedb") true over (fun _ h => by cases h) (by kernel_rfl) (fun _ h => by cases h) verOrder_row_tie rfl ⟨rfl, rfl⟩ (by kernel_rfl) rfl
    (fun f fn hf hfn => by
      obtain rfl : f = 4 := Option.some.inj ((show Tryd.prog.funcNamed "armada/armadalaw07.VerOrder" = some 4 by kernel_rfl).symm.trans hf) |>.symm
      obtain rfl : fn = Tryd.f4 := (Option.some.inj (Tryd.func4.symm.trans hfn)).symm
      exact ⟨by kernel_rfl, fun j t ht => by
        rw [Tryd.params4] at ht
        have hm : t ∈ [30, 3] := by simpa using Array.mem_of_getElem? ht
        have hall : ([30, 3].all fun u => !Tryd.prog.wantsStandIn u) = true := by kernel_rfl
        exact (show Tryd.prog.wantsStandIn t = false by simpa using List.all_eq_true.1 hall t hm)⟩)
    (by kernel_rfl)
theorem proved : Rows.VerOrderCardSaid := card_holds
#print axioms proved
end Go.Proofs.YthoiepkejhhcoaaDoor.verOrder
namespace Go.Proofs.YthoiepkejhhcoaaDoor
/-- The row, under a short name, for the claim. -/
theorem verOrder_holds : Rows.VerOrderCardSaid := verOrder.proved
end Go.Proofs.YthoiepkejhhcoaaDoor
