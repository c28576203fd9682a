/- The reference's sum of wide integers of one sign. -/
import Derived.Test.YtjgikfejfglllaaS3
import Derived.Test.YtjgikfejfglllaaS4
import Derived.Test.YtjgikfejfglllaaNz
import Derived.Deep.RegionWith
set_option linter.unusedVariables false
set_option linter.unusedSimpArgs false
namespace Go.Proofs.Ytjgikfejfglllaa
open Go.RowKit

set_option maxHeartbeats 1000000 in
theorem refAdd_same (n : Bool) (M N : Nat) (hM : M < pw 6) (hN : N < pw 6) (hs : cy M N 6 = 0) (hS : M + N < pw 6) (w : World) :
    Calls Try.prog 72 #[wdv n M, wdv n N] w fun e w' => e = .returned (.tuple #[wdv (sg n (M + N)) (M + N), .int .i64 0]) ∧ Below w.heap.size w w' := by
  have hd : decide (cy M N 6 = 0) = true := decide_eq_true hs
  clear hs
  unfold wdv wcl
  go_enter Try.func72, Try.ntmps72
  go_wp2_with fail
  refine (refPlus_any _ _ M N _ (by exact (Blk.newAt (by simp) 147 (cl (lb M))).alloc _) (by exact Blk.newAt (by simp) 147 (cl (lb N)))).mono ?_
  rintro e w1 ⟨rfl, hb1⟩
  rw [hd]
  have hR1 : Blk w1 (w.heap.size + 1 + 1) 32 (wcl false fun _ => 0) := (((Blk.newAt (by simp) 32 (wcl false fun _ => 0)).alloc _).alloc _).later hb1
  have hA1 : Blk w1 (w.heap.size) 32 (wcl n (lb M)) := (((((Blk.newAt (by simp) 32 (wcl n (lb M))).alloc _).alloc _).alloc _).alloc _).later hb1
  have hC1 : Blk w1 (w.heap.size + 1) 32 (wcl n (lb N)) := ((((Blk.newAt (by simp) 32 (wcl n (lb N))).alloc _).alloc _).alloc _).later hb1
  have hX1 : Blk w1 (w.heap.size + 1 + 1 + 1) 147 (cl (lb M)) := ((Blk.newAt (by simp) 147 (cl (lb M))).alloc _).later hb1
  have hY1 : Blk w1 (w.heap.size + 1 + 1 + 1 + 1) 147 (cl (lb N)) := (Blk.newAt (by simp) 147 (cl (lb N))).later hb1
  have hB := below_then (below_alloc (below_alloc (below_alloc (below_alloc (below_alloc (Below.refl w.heap.size w) _) _) _) _) _) hb1
  obtain ⟨a0, a1, a2, a3, a4, a5, a6⟩ := hA1.seven
  obtain ⟨b0, b1, b2, b3, b4, b5, b6⟩ := hC1.seven
  have hz := hb1.size
  simp only [World.size_alloc] at hz
  have z0 : w.heap.size < w1.heap.size := by omega
  have z1 : w.heap.size + 1 < w1.heap.size := by omega
  have z2 : w.heap.size + 1 + 1 < w1.heap.size := by omega
  have z3 : w.heap.size + 1 + 1 + 1 < w1.heap.size := by omega
  have z4 : w.heap.size + 1 + 1 + 1 + 1 < w1.heap.size := by omega
  unfold szv cl
  go_wp2_with fail
  refine (calls_args (args' := #[.bool n, szv (M + N)]) rfl (made_sg _ _ hS _)).mono ?_
  rintro e w2 ⟨rfl, hb2⟩
  have hR2 : Blk w2 (w.heap.size + 1 + 1) 32 (wcl false fun _ => 0) := (hR1.alloc _).later hb2
  go_wp2_with (refine wpList_store_row rfl 32 _ _ rfl (w.heap.size + 1 + 1) _ rfl rfl 32 _ hR2 sz32 rfl (wcl_all _ _) ?_)
  refine bodyPost_ret (v := .tuple #[wdv (sg n (M + N)) (M + N), .int .i64 0]) (res_row_tmp Try.results72 rfl (hR2.row _) Try.underlying32 rfl sz32) rfl ⟨by simp [wdv, wcl], below_row (below_then (below_alloc hB _) hb2) (by omega) _⟩
set_option maxHeartbeats 1000000 in
theorem refAdd_over (n : Bool) (M N : Nat) (hM : M < pw 6) (hN : N < pw 6) (hs : cy M N 6 ≠ 0) (w : World) :
    Calls Try.prog 72 #[wdv n M, wdv n N] w fun e w' => e = .returned (.tuple #[wdv false 0, .int .i64 3]) ∧ Below w.heap.size w w' := by
  have hd : decide (cy M N 6 = 0) = false := decide_eq_false hs
  clear hs
  unfold wdv wcl
  go_enter Try.func72, Try.ntmps72
  go_wp2_with fail
  refine (refPlus_any _ _ M N _ (by exact (Blk.newAt (by simp) 147 (cl (lb M))).alloc _) (by exact Blk.newAt (by simp) 147 (cl (lb N)))).mono ?_
  rintro e w1 ⟨rfl, hb1⟩
  rw [hd]
  have hR1 : Blk w1 (w.heap.size + 1 + 1) 32 (wcl false fun _ => 0) := (((Blk.newAt (by simp) 32 (wcl false fun _ => 0)).alloc _).alloc _).later hb1
  have hA1 : Blk w1 (w.heap.size) 32 (wcl n (lb M)) := (((((Blk.newAt (by simp) 32 (wcl n (lb M))).alloc _).alloc _).alloc _).alloc _).later hb1
  have hC1 : Blk w1 (w.heap.size + 1) 32 (wcl n (lb N)) := ((((Blk.newAt (by simp) 32 (wcl n (lb N))).alloc _).alloc _).alloc _).later hb1
  have hX1 : Blk w1 (w.heap.size + 1 + 1 + 1) 147 (cl (lb M)) := ((Blk.newAt (by simp) 147 (cl (lb M))).alloc _).later hb1
  have hY1 : Blk w1 (w.heap.size + 1 + 1 + 1 + 1) 147 (cl (lb N)) := (Blk.newAt (by simp) 147 (cl (lb N))).later hb1
  have hB := below_then (below_alloc (below_alloc (below_alloc (below_alloc (below_alloc (Below.refl w.heap.size w) _) _) _) _) _) hb1
  obtain ⟨a0, a1, a2, a3, a4, a5, a6⟩ := hA1.seven
  obtain ⟨b0, b1, b2, b3, b4, b5, b6⟩ := hC1.seven
  have hz := hb1.size
  simp only [World.size_alloc] at hz
  have z0 : w.heap.size < w1.heap.size := by omega
  have z1 : w.heap.size + 1 < w1.heap.size := by omega
  have z2 : w.heap.size + 1 + 1 < w1.heap.size := by omega
  have z3 : w.heap.size + 1 + 1 + 1 < w1.heap.size := by omega
  have z4 : w.heap.size + 1 + 1 + 1 + 1 < w1.heap.size := by omega
  unfold szv cl
  go_wp2_with (refine wpList_store_row rfl 32 _ _ rfl (w.heap.size + 1 + 1) (wcl false fun _ => 0) rfl rfl 32 _ (hR1.alloc _) sz32 rfl (wcl_all _ _) ?_)
  refine bodyPost_ret (v := .tuple #[wdv false 0, .int .i64 3]) ((res_row_tmp Try.results72 rfl ((hR1.alloc _).row (wcl false fun _ => 0)) Try.underlying32 rfl sz32).trans ?_) rfl ⟨by simp [wdv, wcl], below_row (below_alloc hB _) (by omega) _⟩
  simp [wdv, wcl, lb_zero]
end Go.Proofs.Ytjgikfejfglllaa
