/- The reference's sum of wide integers of two signs. -/
import Derived.Test.YtjgikfejfglllaaS5
set_option linter.unusedVariables false
set_option linter.unusedSimpArgs false
namespace Go.Proofs.Ytjgikfejfglllaa
open Go.RowKit

set_option maxHeartbeats 2000000 in
theorem refAdd_ge (n : Bool) (M N : Nat) (hM : M < pw 6) (hN : N < pw 6) (hle : N ≤ M) (w : World) :
    Calls Try.prog 72 #[wdv n M, wdv (!n) N] w fun e w' => e = .returned (.tuple #[wdv (sg (n) (M - N)) (M - N), .int .i64 0]) ∧ Below w.heap.size w w' := by
  have hcmp2 : decide (0 ≤ cmp M N) = true := by
    unfold cmp
    rw [if_neg (by omega)]
    split <;> decide
  have hne : (n == !n) = false := by cases n <;> rfl
  have hS : M - N < pw 6 := by omega
  unfold wdv wcl
  go_enter Try.func72, Try.ntmps72
  go_wp2_with fail
  refine (refCmp_any _ _ M N hM hN _ (by exact (Blk.newAt (by simp) 147 (cl (lb M))).alloc _) (by exact Blk.newAt (by simp) 147 (cl (lb N)))).mono ?_
  rintro e w1 ⟨rfl, nd, rfl⟩
  go_wp2_with fail
  go_region_with (first
    | (go_at_call 118; refine (refMinus_any _ _ M N hle _ (by exact ((Blk.newAt (by simp) 147 (cl (lb M))).alloc _).drewN _) (by exact (Blk.newAt (by simp) 147 (cl (lb N))).drewN _)).mono ?_; rintro e w2 ⟨rfl, hb2⟩; have hA2 : Blk w2 (w.heap.size) 32 (wcl (n) (lb M)) := ((((((Blk.newAt (by simp) 32 (wcl n (lb M))).alloc _).alloc _).alloc _).alloc _).drewN _).later hb2; obtain ⟨a0, a1, a2, a3, a4, a5, a6⟩ := hA2.seven; have hR2 : Blk w2 (w.heap.size + 1 + 1) 32 (wcl false fun _ => 0) := ((((Blk.newAt (by simp) 32 (wcl false fun _ => 0)).alloc _).alloc _).drewN _).later hb2; have hB2 : Below w.heap.size w w2 := below_then (below_drewN (below_alloc (below_alloc (below_alloc (below_alloc (below_alloc (Below.refl w.heap.size w) _) _) _) _) _) _) hb2)
    | (go_at_call 115; refine (made_sg _ _ hS _).mono ?_; rintro e w3 ⟨rfl, hb3⟩; have hR3 := hR2.later hb3; have hB3 := below_then hB2 hb3; obtain ⟨d0, d1, d2, d3, d4, d5, d6⟩ := hR3.seven; obtain ⟨f0, f1, f2, f3, f4, f5, f6⟩ := hR3.froz; unfold wdv wcl))
  all_goals go_wp2
  all_goals exact bodyPost_ret (v := .tuple #[wdv (sg (n) (M - N)) (M - N), .int .i64 0]) (res_row_tmp Try.results72 rfl (hR3.put7 rfl _ _ _ _ _ _ _) Try.underlying32 rfl sz32) rfl ⟨rfl, below_put7 hB3 (by omega) _ _ _ _ _ _ _⟩
set_option maxHeartbeats 2000000 in
theorem refAdd_lt (n : Bool) (M N : Nat) (hM : M < pw 6) (hN : N < pw 6) (hlt : M < N) (w : World) :
    Calls Try.prog 72 #[wdv n M, wdv (!n) N] w fun e w' => e = .returned (.tuple #[wdv (sg (!n) (N - M)) (N - M), .int .i64 0]) ∧ Below w.heap.size w w' := by
  have hcmp2 : decide (0 ≤ cmp M N) = false := by
    unfold cmp
    rw [if_pos hlt]
    rfl
  have hne : (n == !n) = false := by cases n <;> rfl
  have hS : N - M < pw 6 := by omega
  unfold wdv wcl
  go_enter Try.func72, Try.ntmps72
  go_wp2_with fail
  refine (refCmp_any _ _ M N hM hN _ (by exact (Blk.newAt (by simp) 147 (cl (lb M))).alloc _) (by exact Blk.newAt (by simp) 147 (cl (lb N)))).mono ?_
  rintro e w1 ⟨rfl, nd, rfl⟩
  go_wp2_with fail
  go_region_with (first
    | (go_at_call 118; refine (refMinus_any _ _ N M (Nat.le_of_lt hlt) _ (by exact (Blk.newAt (by simp) 147 (cl (lb N))).drewN _) (by exact ((Blk.newAt (by simp) 147 (cl (lb M))).alloc _).drewN _)).mono ?_; rintro e w2 ⟨rfl, hb2⟩; have hA2 : Blk w2 (w.heap.size + 1) 32 (wcl (!n) (lb N)) := (((((Blk.newAt (by simp) 32 (wcl (!n) (lb N))).alloc _).alloc _).alloc _).drewN _).later hb2; obtain ⟨a0, a1, a2, a3, a4, a5, a6⟩ := hA2.seven; have hR2 : Blk w2 (w.heap.size + 1 + 1) 32 (wcl false fun _ => 0) := ((((Blk.newAt (by simp) 32 (wcl false fun _ => 0)).alloc _).alloc _).drewN _).later hb2; have hB2 : Below w.heap.size w w2 := below_then (below_drewN (below_alloc (below_alloc (below_alloc (below_alloc (below_alloc (Below.refl w.heap.size w) _) _) _) _) _) _) hb2)
    | (go_at_call 115; refine (made_sg _ _ hS _).mono ?_; rintro e w3 ⟨rfl, hb3⟩; have hR3 := hR2.later hb3; have hB3 := below_then hB2 hb3; obtain ⟨d0, d1, d2, d3, d4, d5, d6⟩ := hR3.seven; obtain ⟨f0, f1, f2, f3, f4, f5, f6⟩ := hR3.froz; unfold wdv wcl))
  all_goals go_wp2
  all_goals exact bodyPost_ret (v := .tuple #[wdv (sg (!n) (N - M)) (N - M), .int .i64 0]) (res_row_tmp Try.results72 rfl (hR3.put7 rfl _ _ _ _ _ _ _) Try.underlying32 rfl sz32) rfl ⟨rfl, below_put7 hB3 (by omega) _ _ _ _ _ _ _⟩
end Go.Proofs.Ytjgikfejfglllaa
