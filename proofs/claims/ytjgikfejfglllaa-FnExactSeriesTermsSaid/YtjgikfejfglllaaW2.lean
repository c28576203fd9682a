/- The wide integer of a sign and a size; comparing sizes; differences. -/
import Derived.Test.YtjgikfejfglllaaEq
import Derived.Test.YtjgikfejfglllaaW1
import Derived.BigRegion
import Derived.RegionTactic
set_option linter.unusedVariables false
set_option linter.unusedSimpArgs false
namespace Go.Proofs.Ytjgikfejfglllaa
open Go.RowKit
theorem wide_false (M : Nat) (w : World) :
    Calls Try.prog 142 #[.bool false, szv M] w fun e w' => e = .returned (wdv false M) ∧ Below w.heap.size w w' := by
  unfold szv cl
  go_enter Try.func142, Try.ntmps142
  go_wp2
  go_region
  go_wp2
  refine bodyPost_ret (v := wdv false M) (by simp [results, Try.results142, go_sem, wdv, wcl]) rfl ⟨rfl, ?_⟩
  exact below_drewN (below_alloc (below_alloc (Below.refl _ _) _) _) 1
theorem wide_true (M : Nat) (hM : M < pw 6) (w : World) :
    Calls Try.prog 142 #[.bool true, szv M] w fun e w' => e = .returned (wdv (decide (M ≠ 0)) M) ∧ Below w.heap.size w w' := by
  have hz := zero_limbs hM
  have e := eqArr 136 Try.underlying136
  unfold szv cl
  by_cases h : M = 0
  · rw [decide_eq_true h] at hz
    go_enter Try.func142, Try.ntmps142
    go_wp2
    go_region
    go_wp2
    refine bodyPost_ret (v := wdv false M) (by simp [results, Try.results142, go_sem, wdv, wcl, h, lb_zero]) rfl ⟨by simp [h], ?_⟩
    exact below_drewN (below_alloc (below_alloc (Below.refl _ _) _) _) 1
  · rw [decide_eq_false h] at hz
    go_enter Try.func142, Try.ntmps142
    go_wp2
    go_region
    go_wp2
    refine bodyPost_ret (v := wdv true M) (by simp [results, Try.results142, go_sem, wdv, wcl]) rfl ⟨by simp [h], ?_⟩
    exact below_drewN (below_alloc (below_alloc (Below.refl _ _) _) _) 1
theorem wide_any (n : Bool) (M : Nat) (hM : M < pw 6) (w : World) :
    Calls Try.prog 142 #[.bool n, szv M] w fun e w' => e = .returned (wdv (n && decide (M ≠ 0)) M) ∧ Below w.heap.size w w' := by
  cases n with
  | false => exact wide_false M w
  | true => exact wide_true M hM w
end Go.Proofs.Ytjgikfejfglllaa
