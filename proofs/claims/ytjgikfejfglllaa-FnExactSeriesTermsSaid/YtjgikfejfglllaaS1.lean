/- The reference's wide integers: zero, made, of a number, sums, differences, comparisons. -/
import Derived.Test.YtjgikfejfglllaaEq
import Derived.BigRegion
import Derived.RegionTactic
import Derived.StillTailTactics
import Derived.Deep.RegionWith
set_option linter.unusedVariables false
set_option linter.unusedSimpArgs false
namespace Go.Proofs.Ytjgikfejfglllaa
open Go.RowKit

theorem zero_ref (g : Nat) (M : Nat) (hM : M < pw 6) (w : World) (h : Blk w g 147 (cl (lb M))) :
    Calls Try.prog 141 #[.pointer (some ⟨g, 0, none⟩)] w fun e w' => e = .returned (.bool (decide (M = 0))) ∧ w = w' := by
  obtain ⟨c0, c1, c2, c3, c4, c5⟩ := h.six
  have hz := zero_limbs hM
  have e := eqArr 147 Try.underlying147
  go_enter Try.func141, Try.ntmps141
  go_wp2
  go_ret
  refine ⟨?_, rfl⟩
  rw [← hz]
  rfl

theorem made_true (M : Nat) (hM : M < pw 6) (w : World) :
    Calls Try.prog 115 #[.bool true, szv M] w fun e w' => e = .returned (wdv (decide (M ≠ 0)) M) ∧ Below w.heap.size w w' := by
  have hz := zero_ref w.heap.size M hM
  unfold szv cl
  go_enter Try.func115, Try.ntmps115
  go_wp2
  go_region_with (go_at_call 141; refine (zero_ref _ M hM _ (by exact ((Blk.new w 147 (cl (lb M))).alloc _).drew)).mono ?_; rintro e w' ⟨rfl, rfl⟩)
  all_goals go_wp2
  all_goals exact bodyPost_ret (v := wdv (decide (M ≠ 0)) M) (by simp [results, Try.results115, go_sem, wdv, wcl]) rfl ⟨rfl, below_drewN (below_alloc (below_alloc (Below.refl _ _) _) _) 1⟩
theorem made_false (M : Nat) (w : World) :
    Calls Try.prog 115 #[.bool false, szv M] w fun e w' => e = .returned (wdv false M) ∧ Below w.heap.size w w' := by
  unfold szv cl
  go_enter Try.func115, Try.ntmps115
  go_wp2
  go_region
  go_wp2
  refine bodyPost_ret (v := wdv false M) (by simp [results, Try.results115, go_sem, wdv, wcl]) rfl ⟨rfl, ?_⟩
  exact below_drewN (below_alloc (below_alloc (Below.refl _ _) _) _) 1
theorem made_any (n : Bool) (M : Nat) (hM : M < pw 6) (w : World) :
    Calls Try.prog 115 #[.bool n, szv M] w fun e w' => e = .returned (wdv (n && decide (M ≠ 0)) M) ∧ Below w.heap.size w w' := by
  cases n with
  | false => exact made_false M w
  | true => exact made_true M hM w
end Go.Proofs.Ytjgikfejfglllaa
