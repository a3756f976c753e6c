/- Bytes as signs and back, on lists of numbers; what the program's Encode and Decode come to. -/
import Derived.Test.YtjmomhicemjilaaDoorZB64TellsBDecode
namespace Go.Proofs.YtjmomhicemjilaaDoor.Pl
set_option linter.unusedSimpArgs false
set_option linter.unusedVariables false
open Go.RowKit Go.Proofs.YtjmomhicemjilaaDoor.P Go.Proofs.YtjmomhicemjilaaDoorW.PrintWords Go.Proofs.YtjmomhicemjilaaDoorW.PrintLast Go.Proofs.YtjmomhicemjilaaDoorW.PrintMore
def InB (l : List Int) : Prop := ∀ c ∈ l, 0 ≤ c ∧ c ≤ 255
/-- The sign of a number below 64. -/
def S (v : Int) : Int := bt signsB v
/-- The signs of bytes, without pads. -/
def encS : List Int → List Int
  | a :: b :: c :: r => S (a / 4) :: S (a % 4 * 16 + b / 16) :: S (b % 16 * 4 + c / 64) :: S (c % 64) :: encS r
  | [a, b] => [S (a / 4), S (a % 4 * 16 + b / 16), S (b % 16 * 4)]
  | [a] => [S (a / 4), S (a % 4 * 16)]
  | [] => []
def padsN : List Int → Nat
  | _ :: _ :: _ :: r => padsN r
  | [_, _] => 1
  | [_] => 2
  | [] => 0
def encP (l : List Int) : List Int := encS l ++ List.replicate (padsN l) 61
theorem encP_three (a b c : Int) (r : List Int) : encP (a :: b :: c :: r) = S (a / 4) :: S (a % 4 * 16 + b / 16) :: S (b % 16 * 4 + c / 64) :: S (c % 64) :: encP r := rfl
theorem S_nat (v : Int) (h0 : 0 ≤ v) (h1 : v < 64) : (0 ≤ S v ∧ S v ≤ 255) ∧ S v ≠ 61 ∧ dK (S v) = v := by
  have : ∀ n : Fin 64, (0 ≤ S (n.val : Int) ∧ S (n.val : Int) ≤ 255) ∧ S (n.val : Int) ≠ 61 ∧ dK (S (n.val : Int)) = (n.val : Int) := by decide +kernel
  obtain ⟨m, rfl⟩ := Int.eq_ofNat_of_zero_le h0
  exact this ⟨m, by omega⟩
theorem encS_signs (l : List Int) (h : InB l) : ∀ c ∈ encS l, (0 ≤ c ∧ c ≤ 255) ∧ c ≠ 61 := by
  have sg : ∀ v, 0 ≤ v → v < 64 → (0 ≤ S v ∧ S v ≤ 255) ∧ S v ≠ 61 := fun v h0 h1 => ⟨(S_nat v h0 h1).1, (S_nat v h0 h1).2.1⟩
  fun_induction encS l with
  | case1 a b c r ih =>
    have ha := h a (by simp); have hb := h b (by simp); have hc := h c (by simp)
    intro x hx
    simp only [List.mem_cons] at hx
    rcases hx with rfl | rfl | rfl | rfl | hx
    · exact sg _ (by omega) (by omega)
    · exact sg _ (by omega) (by omega)
    · exact sg _ (by omega) (by omega)
    · exact sg _ (by omega) (by omega)
    · exact ih (fun y hy => h y (by simp [hy])) x hx
  | case2 a b =>
    have ha := h a (by simp); have hb := h b (by simp)
    intro x hx
    simp only [List.mem_cons, List.not_mem_nil, or_false] at hx
    rcases hx with rfl | rfl | rfl
    · exact sg _ (by omega) (by omega)
    · exact sg _ (by omega) (by omega)
    · exact sg _ (by omega) (by omega)
  | case3 a =>
    have ha := h a (by simp)
    intro x hx
    simp only [List.mem_cons, List.not_mem_nil, or_false] at hx
    rcases hx with rfl | rfl
    · exact sg _ (by omega) (by omega)
    · exact sg _ (by omega) (by omega)
  | case4 => intro x hx; cases hx
theorem padsN_mod (l : List Int) : padsN l = (3 - l.length % 3) % 3 := by
  fun_induction padsN l with
  | case1 a b c r ih => rw [ih]; simp only [List.length_cons]; omega
  | case2 => rfl
  | case3 => rfl
  | case4 => rfl
theorem padsN_le (l : List Int) : padsN l ≤ 2 := by rw [padsN_mod]; omega
theorem encP_InB (l : List Int) (h : InB l) : InB (encP l) := by
  intro x hx
  rcases List.mem_append.1 hx with h1 | h1
  · exact (encS_signs l h x h1).1
  · obtain ⟨_, rfl⟩ := List.mem_replicate.1 h1; omega
theorem encP_length (l : List Int) : (encP l).length = 4 * ((l.length + 2) / 3) := by
  have : ∀ l : List Int, (encS l).length + padsN l = 4 * ((l.length + 2) / 3) := by
    intro l
    fun_induction encS l with
    | case1 a b c r ih => simp only [List.length_cons, padsN]; omega
    | case2 a b => simp [padsN]
    | case3 a => simp [padsN]
    | case4 => rfl
  unfold encP
  rw [List.length_append, List.length_replicate, this]
theorem encP_append (a b : List Int) (h : a.length % 3 = 0) : encP (a ++ b) = encP a ++ encP b := by
  match a, h with
  | [], _ => rfl
  | x :: y :: z :: r, h =>
    have ih := encP_append r b (by simp only [List.length_cons] at h; omega)
    show encP (x :: y :: z :: (r ++ b)) = _
    rw [encP_three, ih, encP_three]
    rfl
  | [_], h => simp at h
  | [_, _], h => simp at h
theorem dec_three (a b c : Int) (ha : 0 ≤ a ∧ a ≤ 255) (hb : 0 ≤ b ∧ b ≤ 255) (hc : 0 ≤ c ∧ c ≤ 255) (r : List Int) (n : Int) (hn : 0 ≤ n ∧ n < 4294967296) (out : List Int) :
    ∃ n', (0 ≤ n' ∧ n' < 4294967296) ∧ decGo (S (a / 4) :: S (a % 4 * 16 + b / 16) :: S (b % 16 * 4 + c / 64) :: S (c % 64) :: r) n 0 out = decGo r n' 0 (out ++ [a, b, c]) := by
  have s1 := (S_nat (a / 4) (by omega) (by omega)).2.2
  have s2 := (S_nat (a % 4 * 16 + b / 16) (by omega) (by omega)).2.2
  have s3 := (S_nat (b % 16 * 4 + c / 64) (by omega) (by omega)).2.2
  have s4 := (S_nat (c % 64) (by omega) (by omega)).2.2
  refine ⟨dN (dN (dN (dN n (a / 4)) (a % 4 * 16 + b / 16)) (b % 16 * 4 + c / 64)) (c % 64), dN_range _ _ (by omega) (by omega), ?_⟩
  rw [decGo, s1, if_neg (by omega), if_neg (by omega), decGo, s2, if_neg (by omega), if_pos (by omega), decGo, s3, if_neg (by omega), if_pos (by omega), decGo, s4, if_neg (by omega), if_pos (by omega)]
  have e1 : ((0 : Int) + 6 + 6 - 8).toNat = 4 := rfl
  have e2 : ((0 : Int) + 6 + 6 - 8 + 6 - 8).toNat = 2 := rfl
  have e3 : ((0 : Int) + 6 + 6 - 8 + 6 - 8 + 6 - 8).toNat = 0 := rfl
  rw [e1, e2, e3, show (0 : Int) + 6 + 6 - 8 + 6 - 8 + 6 - 8 = 0 from rfl, List.append_assoc, List.append_assoc]
  have x1 : dN (dN n (a / 4)) (a % 4 * 16 + b / 16) / 2 ^ 4 % 256 = a := by unfold dN; omega
  have x2 : dN (dN (dN n (a / 4)) (a % 4 * 16 + b / 16)) (b % 16 * 4 + c / 64) / 2 ^ 2 % 256 = b := by unfold dN; omega
  have x3 : dN (dN (dN (dN n (a / 4)) (a % 4 * 16 + b / 16)) (b % 16 * 4 + c / 64)) (c % 64) / 2 ^ 0 % 256 = c := by unfold dN; omega
  rw [x1, x2, x3]
  rfl
theorem dec_encS (l : List Int) (h : InB l) : ∀ (n : Int) (out : List Int), 0 ≤ n ∧ n < 4294967296 → decGo (encS l) n 0 out = some (out ++ l) := by
  fun_induction encS l with
  | case1 a b c r ih =>
    intro n out hn
    obtain ⟨n', hn', e⟩ := dec_three a b c (h a (by simp)) (h b (by simp)) (h c (by simp)) (encS r) n hn out
    rw [e, ih (fun y hy => h y (by simp [hy])) n' _ hn', List.append_assoc]
    rfl
  | case2 a b =>
    intro n out hn
    have ha := h a (by simp); have hb := h b (by simp)
    have s1 := (S_nat (a / 4) (by omega) (by omega)).2.2
    have s2 := (S_nat (a % 4 * 16 + b / 16) (by omega) (by omega)).2.2
    have s3 := (S_nat (b % 16 * 4) (by omega) (by omega)).2.2
    rw [decGo, s1, if_neg (by omega), if_neg (by omega), decGo, s2, if_neg (by omega), if_pos (by omega), decGo, s3, if_neg (by omega), if_pos (by omega), decGo]
    have e1 : ((0 : Int) + 6 + 6 - 8).toNat = 4 := rfl
    have e2 : ((0 : Int) + 6 + 6 - 8 + 6 - 8).toNat = 2 := rfl
    rw [e1, e2, List.append_assoc]
    have x1 : dN (dN n (a / 4)) (a % 4 * 16 + b / 16) / 2 ^ 4 % 256 = a := by unfold dN; omega
    have x2 : dN (dN (dN n (a / 4)) (a % 4 * 16 + b / 16)) (b % 16 * 4) / 2 ^ 2 % 256 = b := by unfold dN; omega
    rw [x1, x2]
    rfl
  | case3 a =>
    intro n out hn
    have ha := h a (by simp)
    have s1 := (S_nat (a / 4) (by omega) (by omega)).2.2
    have s2 := (S_nat (a % 4 * 16) (by omega) (by omega)).2.2
    rw [decGo, s1, if_neg (by omega), if_neg (by omega), decGo, s2, if_neg (by omega), if_pos (by omega), decGo]
    have e1 : ((0 : Int) + 6 + 6 - 8).toNat = 4 := rfl
    rw [e1]
    have x1 : dN (dN n (a / 4)) (a % 4 * 16) / 2 ^ 4 % 256 = a := by unfold dN; omega
    rw [x1]
  | case4 => intro n out hn; rw [decGo, List.append_nil]
theorem encP_inj {a b : List Int} (ha : InB a) (hb : InB b) (h : encP a = encP b) : a = b := by
  have tk : ∀ l, InB l → (encP l).takeWhile (fun c => c != 61) = encS l := by
    intro l hl
    unfold encP
    rw [List.takeWhile_append_of_pos (fun x hx => by simpa using (encS_signs l hl x hx).2)]
    cases hp : padsN l with
    | zero => simp
    | succ m => rw [List.replicate_succ]; simp
  have h1 : encS a = encS b := by rw [← tk a ha, ← tk b hb, h]
  have h2 := dec_encS a ha 0 [] (by omega)
  rw [h1, dec_encS b hb 0 [] (by omega)] at h2
  simpa using (Option.some.inj h2).symm
end Go.Proofs.YtjmomhicemjilaaDoor.Pl
