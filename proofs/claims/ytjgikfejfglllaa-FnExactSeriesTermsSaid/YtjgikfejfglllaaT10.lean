/- A wide integer times a power of two: the reference's. -/
import Derived.Test.YtjgikfejfglllaaT9
import Derived.Test.YtjgikfejfglllaaNz
set_option linter.unusedVariables false
set_option linter.unusedSimpArgs false
namespace Go.Proofs.Ytjgikfejfglllaa
open Go.RowKit


set_option maxHeartbeats 1000000 in
theorem refUp_over (n : Bool) (M b : Nat) (hM : M < pw 6) (hb : b ≤ 191) (ho : 192 < nb M + b) (w : World) :
    Calls Try.prog 103 #[wdv n M, .int .i64 b] w fun e w' => e = .returned (.tuple #[wdv false 0, .int .i64 3]) ∧ Below w.heap.size w w' := by
  unfold wdv wcl
  go_enter Try.func103, Try.ntmps103
  go_wp2_with fail
  refine (upMag_over _ M b hM hb ho _ (by exact Blk.newAt (by simp) 147 (cl (lb M)))).mono ?_
  rintro e w1 ⟨rfl, hb1⟩
  have hR1 : Blk w1 (w.heap.size + 1) 32 (wcl false fun _ => 0) := ((Blk.newAt (by simp) 32 (wcl false fun _ => 0)).alloc _).later hb1
  have hB1 := below_then (below_alloc (below_alloc (below_alloc (Below.refl w.heap.size w) _) _) _) hb1
  unfold szv cl
  go_wp2_with (refine wpList_store_row rfl 32 _ _ rfl (w.heap.size + 1) (wcl false fun _ => 0) rfl rfl 32 _ (hR1.alloc _) sz32 rfl (wcl_all _ _) ?_)
  refine bodyPost_ret (v := .tuple #[wdv false 0, .int .i64 3]) ((res_row_tmp Try.results103 rfl ((hR1.alloc _).row (wcl false fun _ => 0)) Try.underlying32 rfl sz32).trans ?_) rfl ⟨by simp [wdv, wcl], below_row (below_alloc hB1 _) (by omega) _⟩
  simp [wdv, wcl, lb_zero]
set_option maxHeartbeats 1000000 in
theorem refUp_fits (n : Bool) (M b : Nat) (hM : M < pw 6) (hb : b ≤ 191) (ho : nb M + b ≤ 192) (w : World) :
    Calls Try.prog 103 #[wdv n M, .int .i64 b] w fun e w' => e = .returned (.tuple #[wdv (sg n (M * 2 ^ b)) (M * 2 ^ b), .int .i64 0]) ∧ Below w.heap.size w w' := by
  have hS : M * 2 ^ b < pw 6 := by
    rcases nb_up.1 ho with ⟨_, h⟩ | ⟨rfl, _⟩
    · exact h
    · simp [pw_pos]
  obtain ⟨S, hSe⟩ : ∃ S, S = M * 2 ^ b := ⟨_, rfl⟩
  have hu := fun g w hG => upMag_fits g M b hM hb ho w hG
  rw [← hSe] at hS hu ⊢
  clear hSe
  unfold wdv wcl
  go_enter Try.func103, Try.ntmps103
  go_wp2_with fail
  refine (hu _ _ (by exact Blk.newAt (by simp) 147 (cl (lb M)))).mono ?_
  rintro e w1 ⟨rfl, hb1⟩
  have hA1 : Blk w1 w.heap.size 32 (wcl n (lb M)) := (((Blk.newAt (by simp) 32 (wcl n (lb M))).alloc _).alloc _).later hb1
  have hR1 : Blk w1 (w.heap.size + 1) 32 (wcl false fun _ => 0) := ((Blk.newAt (by simp) 32 (wcl false fun _ => 0)).alloc _).later hb1
  have hB1 := below_then (below_alloc (below_alloc (below_alloc (Below.refl w.heap.size w) _) _) _) hb1
  obtain ⟨a0, a1, a2, a3, a4, a5, a6⟩ := hA1.seven
  have z0 := hA1.lt
  clear hb1 hu
  unfold szv cl
  go_wp2_with fail
  refine (calls_args (args' := #[.bool n, szv S]) rfl (made_sg _ _ hS _)).mono ?_
  rintro e w2 ⟨rfl, hb2⟩
  have hR2 := (hR1.alloc _).later hb2
  go_wp2_with (refine wpList_store_row rfl 32 _ _ rfl (w.heap.size + 1) _ rfl rfl 32 _ hR2 sz32 rfl (wcl_all _ _) ?_)
  refine bodyPost_ret (v := .tuple #[wdv (sg n S) S, .int .i64 0]) (res_row_tmp Try.results103 rfl (hR2.row _) Try.underlying32 rfl sz32) rfl ⟨rfl, below_row (below_then (below_alloc hB1 _) hb2) (by omega) _⟩
end Go.Proofs.Ytjgikfejfglllaa
