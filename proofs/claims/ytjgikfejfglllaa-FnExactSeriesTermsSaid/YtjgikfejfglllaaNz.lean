/- The same contracts, the sign behind a name. -/
import Derived.Test.YtjgikfejfglllaaW5
set_option linter.unusedVariables false
set_option linter.unusedSimpArgs false
namespace Go.Proofs.Ytjgikfejfglllaa
open Go.RowKit

/-- The sign of a wide integer that is made of a sign and a size. -/
def sg (n : Bool) (M : Nat) : Bool := n && decide (M ≠ 0)
theorem wide_sg (n : Bool) (M : Nat) (hM : M < pw 6) (w : World) :
    Calls Try.prog 142 #[.bool n, szv M] w fun e w' => e = .returned (wdv (sg n M) M) ∧ Below w.heap.size w w' := wide_any n M hM w
theorem made_sg (n : Bool) (M : Nat) (hM : M < pw 6) (w : World) :
    Calls Try.prog 115 #[.bool n, szv M] w fun e w' => e = .returned (wdv (sg n M) M) ∧ Below w.heap.size w w' := made_any n M hM w
theorem opposite_sg (n : Bool) (M : Nat) (hM : M < pw 6) (w : World) :
    Calls Try.prog 166 #[wdv n M] w fun e w' => e = .returned (wdv (sg (!n) M) M) ∧ Below w.heap.size w w' := opposite_any n M hM w
theorem refNeg_sg (n : Bool) (M : Nat) (hM : M < pw 6) (w : World) :
    Calls Try.prog 73 #[wdv n M] w fun e w' => e = .returned (wdv (sg (!n) M) M) ∧ Below w.heap.size w w' := refNeg_any n M hM w

/-- An integer below 2 to the power 192 in size, as a value. -/
def zv (z : Int) : Value := wdv (decide (z < 0)) z.natAbs
theorem wdv_zv {n : Bool} {M : Nat} {z : Int} (h : z = if n then -(M : Int) else M) : wdv (sg n M) M = zv z := by
  subst h
  unfold zv sg
  cases n
  · have e1 : decide ((M : Int) < 0) = false := decide_eq_false (by omega)
    simp [e1]
  · by_cases hM : M = 0
    · subst hM
      rfl
    · have e3 : 0 < M := by omega
      have e2 : (-(M : Int)).natAbs = M := by omega
      simp [e2, hM, e3]
end Go.Proofs.Ytjgikfejfglllaa
