/- Arrays of six limbs are compared. -/
import Derived.Test.YtjgikfejfglllaaNum
import Derived.BigRegion
import Derived.RegionTactic
set_option linter.unusedVariables false
set_option linter.unusedSimpArgs false
namespace Go.Proofs.Ytjgikfejfglllaa
open Go.RowKit

theorem isAgg29 (w : World) : (isAgg 29).run Try.prog w = .ok false w := by simp [isAgg, run_underlying Try.underlying29]
theorem eq29 (d : Nat) (x y : Int) (w : World) : (Op.equalIn (d + 1) 29 (.int .u32 x) (.int .u32 y)).run Try.prog w = .ok (x == y) w := by
  rw [Op.equalIn]
  rw [Sem.run_bind, run_underlying Try.underlying29]
  simp
theorem eqArr (t : TypeId) (ht : Try.prog.underlying t = some (.array 6 29)) (x0 x1 x2 x3 x4 x5 y0 y1 y2 y3 y4 y5 : Int) (w : World) :
    (Op.equalIn 10000 t (.agg #[.int .u32 x0, .int .u32 x1, .int .u32 x2, .int .u32 x3, .int .u32 x4, .int .u32 x5]) (.agg #[.int .u32 y0, .int .u32 y1, .int .u32 y2, .int .u32 y3, .int .u32 y4, .int .u32 y5])).run Try.prog w =
      .ok (x0 == y0 && (x1 == y1 && (x2 == y2 && (x3 == y3 && (x4 == y4 && x5 == y5))))) w := by
  show (Op.equalIn (9998 + 1 + 1) t _ _).run _ _ = _
  rw [Op.equalIn]
  rw [Sem.run_bind, run_underlying ht]
  have e := eq29 9998
  by_cases h0 : x0 = y0
  · by_cases h1 : x1 = y1
    · by_cases h2 : x2 = y2
      · by_cases h3 : x3 = y3
        · by_cases h4 : x4 = y4
          · by_cases h5 : x5 = y5
            · simp [Sem.run_bind, go_sem, List.range', e, h0, h1, h2, h3, h4, h5]
            · simp [Sem.run_bind, go_sem, List.range', e, h0, h1, h2, h3, h4, h5]
          · simp [Sem.run_bind, go_sem, List.range', e, h0, h1, h2, h3, h4]
        · simp [Sem.run_bind, go_sem, List.range', e, h0, h1, h2, h3]
      · simp [Sem.run_bind, go_sem, List.range', e, h0, h1, h2]
    · simp [Sem.run_bind, go_sem, List.range', e, h0, h1]
  · simp [Sem.run_bind, go_sem, List.range', e, h0]
/-- All limbs are 0. -/
theorem zero_limbs {M : Nat} (hM : M < pw 6) : (((lb M 0 : Nat) : Int) == 0 && (((lb M 1 : Nat) : Int) == 0 && (((lb M 2 : Nat) : Int) == 0 && (((lb M 3 : Nat) : Int) == 0 && (((lb M 4 : Nat) : Int) == 0 && ((lb M 5 : Nat) : Int) == 0))))) = decide (M = 0) := by
  by_cases h : M = 0
  · subst h
    simp [lb_zero]
  · have : ¬ (∀ j, j < 6 → lb M j = lb 0 j) := fun e => h (eq_of_lb hM (pw_pos 6) e)
    rw [decide_eq_false h]
    apply Bool.eq_false_iff.2
    intro e
    simp only [Bool.and_eq_true, beq_iff_eq] at e
    refine this fun j hj => ?_
    rw [lb_zero]
    match j, hj with
    | 0, _ | 1, _ | 2, _ | 3, _ | 4, _ | 5, _ => omega
end Go.Proofs.Ytjgikfejfglllaa
