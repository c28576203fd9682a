/- Wide integers that are the same are found alike. -/
import Derived.Test.YtjgikfejfglllaaC2
set_option linter.unusedVariables false
set_option linter.unusedSimpArgs false
namespace Go.Proofs.Ytjgikfejfglllaa
open Go.RowKit


set_option maxHeartbeats 1000000 in
theorem eqArr_refl (M : Nat) (w : World) : Calls Try.prog 61 #[szv M, szv M] w fun e w' => e = .returned (.bool true) ∧ Below w.heap.size w w' := by
  unfold szv cl
  go_enter Try.func61, Try.ntmps61
  go_wp2
  go_loopw [5] (fun i wr => ∃ k : Nat, k ≤ 6 ∧ i = .int .i64 k ∧ Blk wr w.heap.size 30 (cl (lb M)) ∧ Blk wr (w.heap.size + 1) 30 (cl (lb M)) ∧ Below w.heap.size w wr)
    (fun i _ => 6 - (intOf i).toNat)
  case atStart =>
    exact ⟨0, by omega, rfl, (Blk.newAt (by simp) 30 (cl (lb M))).alloc _, Blk.newAt (by simp) 30 (cl (lb M)), below_alloc (below_alloc (Below.refl _ _) _) _⟩
  case round =>
    obtain ⟨k, hk, rfl, hA, hB, hb⟩ := hrel
    by_cases hlt : k < 6
    · have cA := hA.at_ hlt
      have cB := hB.at_ hlt
      go_wp2
      go_quiet (fail)
      go_wp2
      go_roundw
      case rel => exact ⟨k + 1, by omega, by go_num, hA.drewN nq, hB.drewN nq, below_drewN hb nq⟩
      case measure => simp [intOf] <;> omega
    · go_wp2
      go_ret
      exact ⟨rfl, hb⟩
set_option maxHeartbeats 1000000 in
theorem eqWide_refl (n : Bool) (M : Nat) (w : World) : Calls Try.prog 17 #[wdv n M, wdv n M] w fun e w' => e = .returned (.bool true) ∧ Below w.heap.size w w' := by
  unfold wdv wcl
  go_enter Try.func17, Try.ntmps17
  go_wp2_with fail
  refine (calls_args (args' := #[szv M, szv M]) rfl (eqArr_refl M _)).mono ?_
  rintro e w1 ⟨rfl, hb1⟩
  go_wp2
  go_ret
  exact ⟨rfl, below_then (below_alloc (below_alloc (Below.refl _ _) _) _) hb1⟩
end Go.Proofs.Ytjgikfejfglllaa
