/- SumTells, walked by hand: the one statement of these whose argument is an array. -/
import Derived.Test.YtgjgdahjjegbiaaSumB
import Derived.Test.YtgjgdahjjegbiaaPx2
namespace Go.Proofs.Ytgjgdahjjegbiaa.P
open Go.RowKit Go.Proofs.YtgjgdahjjegbiaaW.PrintWords Go.Proofs.YtgjgdahjjegbiaaW.PrintLast Go.Proofs.YtgjgdahjjegbiaaW.PrintMore Go.Proofs.Ytgjgdahjjegbiaa.Pl
attribute [local go_sem] max2_int min2_int max_two min_two max_three min_three max_four min_four
set_option linter.unusedVariables false
set_option linter.unusedSimpArgs false

theorem quietD {P : Program} {f : FuncId} {args : Array Value} {w : World} {n : Nat} {v : Value}
    (h : Calls P f args (w.drewN n) fun e w' => e = .returned v ∧ Drawn0 (w.drewN n) w') : Calls P f args (w.drewN n) fun e w'' => e = .returned v ∧ ∃ m, w'' = w.drewN m :=
  Calls.quiet_of (h.mono fun _ _ ⟨he, hd⟩ => ⟨he, hd.out⟩)
set_option maxHeartbeats 8000000 in
set_option maxRecDepth 100000 in
theorem tells_few (n k0 k1 x y z : Int) (s : ByteArray) (w : World) (k : Nat) (h0 : decide (70000 < (s.size : Int)) = false) (h0' : decide (70000 < s.size) = false)
    (h1 : Aside0 (sum_Of.f k s = some x)) (h2 : Aside0 (armadaref02_Of.f k s = some x)) (h3 : Aside0 (sum_Roll.f k n s = some y)) (h4 : Aside0 (armadaref02_Roll.f k n s = some y))
    (h5 : Aside0 (sum_Join.f n k0 k1 = some z)) (h6 : Aside0 (armadaref02_Join.f n k0 k1 = some z)) (h7 : Aside0 (armadalaw02_live.f k = some true)) :
    Calls Try.prog 3 #[.int .i64 n, .string s, .agg #[.int .i64 k0, .int .i64 k1]] w fun e w' => e = .returned (.bool true) ∧ Below w.heap.size w w' := by
  go_enter Try.func3, Try.ntmps3
  go_wp2
  go_quiet (first | (go_at_call 9; exact quietD (sum_Of.calls k s x _ h1.out)) | (go_at_call 10; exact quietD (armadaref02_Of.calls k s x _ h2.out)) | (go_at_call 11; exact quietD (sum_Roll.calls k n s y _ h3.out)) | (go_at_call 12; exact quietD (armadaref02_Roll.calls k n s y _ h4.out)) | (go_at_call 13; exact quietD (sum_Join.calls n k0 k1 z _ h5.out)) | (go_at_call 14; exact quietD (armadaref02_Join.calls n k0 k1 z _ h6.out)) | (go_at_call 8; exact quietD (armadalaw02_live.calls k true _ h7.out)))
  go_wp2
  go_ret
  exact ⟨rfl, pw_below_drewN ((Below.refl _ _).alloc (Nat.le_refl _) _) _⟩
set_option maxHeartbeats 8000000 in
set_option maxRecDepth 100000 in
theorem tells_many (n k0 k1 : Int) (s : ByteArray) (w : World) (k : Nat) (h0 : decide (70000 < (s.size : Int)) = true) (h0' : decide (70000 < s.size) = true) (h7 : Aside0 (armadalaw02_live.f k = some true)) :
    Calls Try.prog 3 #[.int .i64 n, .string s, .agg #[.int .i64 k0, .int .i64 k1]] w fun e w' => e = .returned (.bool true) ∧ Below w.heap.size w w' := by
  go_enter Try.func3, Try.ntmps3
  go_wp2_with (go_at_call 8; (with_reducible refine (armadalaw02_live.calls k true _ h7.out).mono ?_); rintro e w' ⟨rfl, ⟨nd, rfl⟩⟩)
  go_ret
  exact ⟨rfl, pw_below_drewN ((Below.refl _ _).alloc (Nat.le_refl _) _) _⟩

/-- Whatever the input. -/
theorem tells_any (n k0 k1 : Int) (s : ByteArray) (w : World) (hs : s.size ≤ 140737488351232) (hn : -9223372036854775808 ≤ n ∧ n ≤ 9223372036854775807) (hk : -9223372036854775808 ≤ k0 ∧ k0 ≤ 9223372036854775807) :
    Calls Try.prog 3 #[.int .i64 n, .string s, .agg #[.int .i64 k0, .int .i64 k1]] w fun e w' => e = .returned (.bool true) ∧ Below w.heap.size w w' := by
  have hl : armadalaw02_live.f (s.size + 12) = some true := at_rounds armadalaw02_live.mono (Nat.le_add_left 12 _) (by decide +kernel)
  by_cases h : 70000 < s.size
  · exact tells_many n k0 k1 s w (s.size + 12) (decide_eq_true (by omega)) (decide_eq_true h) ⟨hl⟩
  · exact tells_few n k0 k1 _ _ _ s w (s.size + 12) (decide_eq_false (by omega)) (decide_eq_false h) ⟨of_spec s hs _ (by omega)⟩ ⟨refOf_spec s hs _ (by omega)⟩ ⟨roll_spec n s hn.1 hn.2 hs _ (by omega)⟩ ⟨refRoll_spec n s hn.1 hn.2 hs _ (by omega)⟩
      ⟨join_spec n k0 k1 hn.1 hn.2 hk.1 hk.2⟩ ⟨refJoin_spec n k0 k1 hn.1 hn.2 hk.1 hk.2⟩ ⟨hl⟩
end Go.Proofs.Ytgjgdahjjegbiaa.P
