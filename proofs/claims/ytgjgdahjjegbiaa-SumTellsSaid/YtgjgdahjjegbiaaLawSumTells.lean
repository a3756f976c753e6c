/- The sum that comes of any number by any bytes, and of any two, is the document's: for every number, every text (those of more than 70000 bytes are let out by the statement itself) and every two numbers. -/
import Derived.Test.YtgjgdahjjegbiaaRows
import Derived.Test.YtgjgdahjjegbiaaSumT
import Derived.WalkKit
import Derived.ProofKit
import Derived.OpenShut
import Derived.ShutString
import Derived.ChangeOld
import Derived.Below
import Derived.SizedLaws
import Derived.Lib.SmallJoins
namespace Go.Proofs.Ytgjgdahjjegbiaa.sumTells
open Go.ChangeShapes Go.WideShapes Go.ChangeAt Go.RowKit
open Go.ChangeMaps (open_string shut_string)
set_option linter.unusedVariables false
theorem own : ownKnob Try.prog.godebug = none := by kernel_rfl
theorem laidOut : laidOutB Try.prog = true := by kernel_rfl
theorem cells3 : Try.prog.cellsOf 3 = 1 := by kernel_rfl
theorem cells22 : Try.prog.cellsOf 22 = 2 := by kernel_rfl
theorem open_two {H : Type} {enc : TypeId × Value → H} {W : World} {r : Reach} {b0 : Nat} {v : Value} {d : DataW H} {p : List MemPlace} {base : Nat} {spare : Nat → Bool} {held : Bool}
    (hv : Value.okWide Try.prog W r b0 22 v) (h : DataW.Trod enc Try.prog W base spare held 22 v d p) :
    ∃ a b : Int, v = .agg #[.int .i64 a, .int .i64 b] ∧ p = [] ∧ (Lit.int .i64 a).wf = true ∧ (Lit.int .i64 b).wf = true := by
  simp only [Value.okWide, Try.underlying22] at hv
  obtain ⟨cs, h1, h2, _⟩ := hv
  obtain ⟨x, y, rfl⟩ := Go.Joins.array2 (h2.trans cells22)
  subst h1
  obtain ⟨fuel, hf⟩ := h
  obtain ⟨xs, m, rfl, hx, hl, hn, hi⟩ := DataW.trod_array Try.underlying22 hf
  have i0 := hi 0 (by omega)
  have i1 := hi 1 (by omega)
  simp only [cells3, Value.cells, Nat.zero_mul, List.drop_zero, Nat.one_mul, List.take_succ_cons, List.take_zero, List.drop_succ_cons] at i0 i1
  match xs, hn with
  | [u, v], _ =>
    simp only [List.getElem?_cons_zero, List.getElem?_cons_succ] at i0 i1
    obtain ⟨a, e0, rfl, wa⟩ := DataW.trod_int Try.underlying3 i0
    obtain ⟨b, e1, rfl, wb⟩ := DataW.trod_int Try.underlying3 i1
    simp only [List.cons.injEq, and_true] at e0 e1
    subst e0 e1
    simp only [Prod.mk.injEq] at hx
    exact ⟨a, b, rfl, by simpa using hx.2, wa, wb⟩
set_option maxRecDepth 100000 in
theorem lifted (os : Os) (started : os.Started) (H : Type) (enc : TypeId × Value → H) :
    ReturnsInHanded {} Try.checked os 3 .any (Rows.sumTellsSpec.pre6 enc Try.prog Try.f3 Rows.sumTellsRow.domain false) (Rows.sumTellsSpec.post enc Try.prog Try.f3 false true false false) := by
  refine returnsInHanded_of_change_sized (C := Try.checked) own started (by kernel_rfl) Try.func3
    (ChangeSpec.witness6 (enc := enc) (C := Try.checked) false ⟨#[], #[.int .i64 0, .string ByteArray.empty, .agg #[.int .i64 0, .int .i64 0]], []⟩ 8 (by kernel_rfl) (by kernel_rfl) (by kernel_rfl) (by kernel_rfl)) ?_
  intro W base args ds gs before hval0 hW hcnd hsz0 _
  have hsz : (DataW.weightsEach Try.prog (Try.f3.params.toList ++ Rows.sumTellsSpec.plain.varTypes Try.prog) (ds ++ gs)).all (· ≤ reachBytes) = true := hsz0
  have hval : ∀ (j : Nat) t v, Try.f3.params[j]? = some t → args[j]? = some v → Value.okWide Try.prog W .any base t v := hval0
  have hW' := hW
  obtain ⟨p, q, hA0, hV, rfl, hfz, hnd⟩ := hW
  have hA : DataW.TrodAll enc Try.prog W 0 (fun _ => true) true Try.f3.params.toList args.toList ds p := hA0
  rw [Try.params3] at hA hval hsz
  obtain ⟨v0, vs0, d0, ds0, p0, q0, hargs, rfl, rfl, h0, r0⟩ := trodAll_cons hA
  obtain ⟨v1, vs1, d1, ds1, p1, q1, rfl, rfl, rfl, h1, r1⟩ := trodAll_cons r0
  obtain ⟨v2, vs2, d2, ds2, p2, q2, rfl, rfl, rfl, h2, r2⟩ := trodAll_cons r1
  obtain ⟨rfl, rfl, rfl⟩ := trodAll_nil r2
  obtain rfl : args = #[v0, v1, v2] := by cases args; simp_all
  obtain ⟨rfl, rfl⟩ := trodVars_none hV
  obtain ⟨a0, rfl, rfl, rfl, y0⟩ := open_int Try.underlying3 (hval 0 3 v0 rfl rfl) h0
  obtain ⟨a1, rfl, rfl, rfl, y1⟩ := open_string Try.underlying9 (hval 1 9 v1 rfl rfl) h1
  have w1 : a1.size ≤ 140737488351232 := by
    have z := sized_string hsz (j := 1) (t := 9) rfl rfl
    rw [Array.length_toList] at z
    exact z
  obtain ⟨k0, k1, rfl, rfl, y2, y3⟩ := open_two (hval 2 22 v2 rfl rfl) h2
  clear hA0 hval0 hsz0 hsz
  have b0 := bounds_i64 y0
  have b2 := bounds_i64 y2
  refine (P.tells_any a0 k0 k1 a1 W w1 ⟨by omega, by omega⟩ ⟨by omega, by omega⟩).mono fun e W' ⟨he, bel⟩ => ?_
  subst he
  have h2' := Below.trod laidOut (by kernel_rfl) (of_decide_eq_true (by kernel_rfl)) h2 bel (by simp)
  exact ⟨_, rfl, _, _, _, [], _, [], hW', trodAll_mk1 (shut_bool Try.underlying4 _), (trodAll_cons_mk (shut_int Try.underlying3 y0) (trodAll_cons_mk (shut_string Try.underlying9 y1) (trodAll_cons_mk h2' trodAll_mk0))), rfl, bel.frame _, fun h => by cases h⟩
theorem over : Rows.sumTellsRow.holds Try.pinned (OpenSpec.ofChange Rows.sumTellsSpec) :=
  OpenClaim.holds_of_wide 3 Try.f3 rfl rfl rfl rfl rfl rfl rfl ⟨rfl, rfl, rfl, rfl, rfl⟩ rfl rfl rfl rfl rfl (by kernel_rfl) Try.func3 (by kernel_rfl)
    (of_decide_eq_true (by kernel_rfl)) (by unfold Func.isWrapper; first | (rw [if_pos (by decide +kernel)]; kernel_rfl) | (rw [if_neg (by decide +kernel)]; exact ⟨rfl, rfl⟩))
    (fun os started H enc _ => lifted os started H enc)
theorem proved : Rows.SumTellsSaid := over
#print axioms proved
end Go.Proofs.Ytgjgdahjjegbiaa.sumTells
namespace Go.Proofs.Ytgjgdahjjegbiaa
/-- The row, under a short name, for the claim. -/
theorem sumTells_holds : Rows.SumTellsSaid := sumTells.proved
end Go.Proofs.Ytgjgdahjjegbiaa
