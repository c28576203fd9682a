/- The laws of UnitOf and RootConvergent: the walks. -/
import Derived.Test.YtjgikfejfglllaaC5
import Derived.Test.YtjgikfejfglllaaC4
set_option linter.unusedVariables false
set_option linter.unusedSimpArgs false
namespace Go.Proofs.Ytjgikfejfglllaa
open Go.RowKit


theorem cvalue_shape (R : Option (Nat × Nat)) : ∃ (M N : Nat) (c : Int), cvalue R = .tuple #[wdv false M, wdv false N, .int .i64 c] := by
  cases R with
  | none => exact ⟨0, 0, 3, rfl⟩
  | some x => exact ⟨x.1, x.2, 0, rfl⟩
theorem cvT_shape (n k : Int) : ∃ (M N : Nat) (c : Int), cvT n k = .tuple #[wdv false M, wdv false N, .int .i64 c] := by
  unfold cvT
  split
  · exact cvalue_shape _
  · exact ⟨0, 0, _, rfl⟩
theorem unT_shape (n : Int) : ∃ (M N : Nat) (c : Int), unT n = .tuple #[wdv false M, wdv false N, .int .i64 c] := by
  unfold unT
  split
  · split
    · exact ⟨0, 0, 4, rfl⟩
    · exact cvalue_shape _
  · exact ⟨0, 0, _, rfl⟩

set_option maxHeartbeats 2000000 in
theorem lawUnitOf (n : Int) (h0 : -9223372036854775808 ≤ n) (h1 : n ≤ 9223372036854775807) (w : World) : Calls Try.prog 4 #[.int .i64 n] w fun e w' => e = .returned (.bool true) ∧ Below w.heap.size w w' := by
  obtain ⟨M, N, c, hT⟩ := unT_shape n
  have hr := fun w => refUnit_any n h0 h1 w
  have hi := fun w => unitOf_any n h0 h1 w
  rw [hT] at hr hi
  clear hT
  go_enter Try.func4, Try.ntmps4
  go_wp2_with fail
  refine (hr _).mono ?_
  rintro e w1 ⟨rfl, hb1⟩
  go_wp2_with (first
    | ((with_reducible change wpList _ _ _ (Oper.mk none (Op.store 32 (Operand.tmp 3) _) _ _ _ _ :: _) _ _); refine wpList_store_row rfl 32 _ _ rfl (w1.heap.size) (wcl false (lb M)) rfl rfl 32 _ (((Blk.newAt rfl 32 (wcl false fun _ => 0)).alloc _)) sz32 rfl (wcl_all _ _) ?_)
    | ((with_reducible change wpList _ _ _ (Oper.mk none (Op.store 32 (Operand.tmp 4) _) _ _ _ _ :: _) _ _); refine wpList_store_row rfl 32 _ _ rfl (w1.heap.size + 1) (wcl false (lb N)) rfl rfl 32 _ (((Blk.newAt (by simp) 32 (wcl false fun _ => 0))).row_far (by omega) _) sz32 rfl (wcl_all _ _) ?_))
  refine (hi _).mono ?_
  rintro e w2 ⟨rfl, hb2⟩
  have d3 : Blk w2 w1.heap.size 32 (wcl false (lb M)) := ((((Blk.newAt rfl 32 (wcl false fun _ => 0)).alloc _).row _).row_far (by omega) _).later hb2
  have d4 : Blk w2 (w1.heap.size + 1) 32 (wcl false (lb N)) := ((((Blk.newAt (by simp) 32 (wcl false fun _ => 0))).row_far (by omega) _).row _).later hb2
  have dB : Below w.heap.size w w2 := below_then (below_row (below_row (below_alloc (below_alloc hb1 _) _) hb1.size _) (Nat.le_trans hb1.size (Nat.le_succ _)) _) hb2
  have s1 := hb1.size
  have y3 := d3.lt
  have y4 := d4.lt
  clear hb1 hb2 hr hi
  go_wp2_with (first
    | ((with_reducible change wpList _ _ _ (Oper.mk none (Op.store 32 (Operand.tmp 6) _) _ _ _ _ :: _) _ _); refine wpList_store_row rfl 32 _ _ rfl (w2.heap.size) (wcl false (lb M)) rfl rfl 32 _ (((Blk.newAt rfl 32 (wcl false fun _ => 0)).alloc _)) sz32 rfl (wcl_all _ _) ?_)
    | ((with_reducible change wpList _ _ _ (Oper.mk none (Op.store 32 (Operand.tmp 7) _) _ _ _ _ :: _) _ _); refine wpList_store_row rfl 32 _ _ rfl (w2.heap.size + 1) (wcl false (lb N)) rfl rfl 32 _ (((Blk.newAt (by simp) 32 (wcl false fun _ => 0))).row_far (by omega) _) sz32 rfl (wcl_all _ _) ?_)
    | ((with_reducible change wpList _ _ _ (Oper.mk (some 21) (Op.load 32 _) _ _ _ _ :: _) _ _); refine wpList_load_row rfl 32 _ rfl (w2.heap.size) rfl 32 _ _ _ ((((Blk.newAt rfl 32 (wcl false fun _ => 0)).alloc _).row _).row_far (by omega) _) Try.underlying32 rfl sz32 ?_)
    | ((with_reducible change wpList _ _ _ (Oper.mk (some 22) (Op.load 32 _) _ _ _ _ :: _) _ _); refine wpList_load_row rfl 32 _ rfl (w1.heap.size) rfl 32 _ _ _ (((((d3).alloc _).alloc _).row_far (by omega) _).row_far (by omega) _) Try.underlying32 rfl sz32 ?_))
  refine (calls_args (args' := #[wdv false M, wdv false M]) rfl (eqWide_refl false M _)).mono ?_
  rintro e w3 ⟨rfl, hb3⟩
  have d7 : Blk w3 (w2.heap.size + 1) 32 (wcl false (lb N)) := ((((Blk.newAt (by simp) 32 (wcl false fun _ => 0))).row_far (by omega) _).row _).later hb3
  replace d4 : Blk w3 (w1.heap.size + 1) 32 (wcl false (lb N)) := (((((d4).alloc _).alloc _).row_far (by omega) _).row_far (by omega) _).later hb3
  replace dB : Below w.heap.size w w3 := below_then (below_row (below_row (below_alloc (below_alloc dB _) _) (by omega) _) (by omega) _) hb3
  obtain ⟨a0, a1, a2, a3, a4, a5, a6⟩ := d7.seven
  obtain ⟨b0, b1, b2, b3, b4, b5, b6⟩ := d4.seven
  clear hb3
  go_wp2_with fail
  refine (calls_args (args' := #[wdv false N, wdv false N]) rfl (eqWide_refl false N _)).mono ?_
  rintro e w4 ⟨rfl, hb4⟩
  replace dB := below_then dB hb4
  go_wp2
  go_ret
  exact ⟨rfl, dB⟩

set_option maxHeartbeats 2000000 in
theorem lawRootConvergent (n k : Int) (h0 : -9223372036854775808 ≤ n) (h1 : n ≤ 9223372036854775807) (w : World) : Calls Try.prog 5 #[.int .i64 n, .int .i64 k] w fun e w' => e = .returned (.bool true) ∧ Below w.heap.size w w' := by
  obtain ⟨M, N, c, hT⟩ := cvT_shape n k
  have hr := fun w => refConvergent_any n k h0 h1 w
  have hi := fun w => rootConvergent_any n k h0 h1 w
  rw [hT] at hr hi
  clear hT
  go_enter Try.func5, Try.ntmps5
  go_wp2_with fail
  refine (hr _).mono ?_
  rintro e w1 ⟨rfl, hb1⟩
  go_wp2_with (first
    | ((with_reducible change wpList _ _ _ (Oper.mk none (Op.store 32 (Operand.tmp 5) _) _ _ _ _ :: _) _ _); refine wpList_store_row rfl 32 _ _ rfl (w1.heap.size) (wcl false (lb M)) rfl rfl 32 _ (((Blk.newAt rfl 32 (wcl false fun _ => 0)).alloc _)) sz32 rfl (wcl_all _ _) ?_)
    | ((with_reducible change wpList _ _ _ (Oper.mk none (Op.store 32 (Operand.tmp 6) _) _ _ _ _ :: _) _ _); refine wpList_store_row rfl 32 _ _ rfl (w1.heap.size + 1) (wcl false (lb N)) rfl rfl 32 _ (((Blk.newAt (by simp) 32 (wcl false fun _ => 0))).row_far (by omega) _) sz32 rfl (wcl_all _ _) ?_))
  refine (hi _).mono ?_
  rintro e w2 ⟨rfl, hb2⟩
  have d3 : Blk w2 w1.heap.size 32 (wcl false (lb M)) := ((((Blk.newAt rfl 32 (wcl false fun _ => 0)).alloc _).row _).row_far (by omega) _).later hb2
  have d4 : Blk w2 (w1.heap.size + 1) 32 (wcl false (lb N)) := ((((Blk.newAt (by simp) 32 (wcl false fun _ => 0))).row_far (by omega) _).row _).later hb2
  have dB : Below w.heap.size w w2 := below_then (below_row (below_row (below_alloc (below_alloc hb1 _) _) hb1.size _) (Nat.le_trans hb1.size (Nat.le_succ _)) _) hb2
  have s1 := hb1.size
  have y3 := d3.lt
  have y4 := d4.lt
  clear hb1 hb2 hr hi
  go_wp2_with (first
    | ((with_reducible change wpList _ _ _ (Oper.mk none (Op.store 32 (Operand.tmp 8) _) _ _ _ _ :: _) _ _); refine wpList_store_row rfl 32 _ _ rfl (w2.heap.size) (wcl false (lb M)) rfl rfl 32 _ (((Blk.newAt rfl 32 (wcl false fun _ => 0)).alloc _)) sz32 rfl (wcl_all _ _) ?_)
    | ((with_reducible change wpList _ _ _ (Oper.mk none (Op.store 32 (Operand.tmp 9) _) _ _ _ _ :: _) _ _); refine wpList_store_row rfl 32 _ _ rfl (w2.heap.size + 1) (wcl false (lb N)) rfl rfl 32 _ (((Blk.newAt (by simp) 32 (wcl false fun _ => 0))).row_far (by omega) _) sz32 rfl (wcl_all _ _) ?_)
    | ((with_reducible change wpList _ _ _ (Oper.mk (some 25) (Op.load 32 _) _ _ _ _ :: _) _ _); refine wpList_load_row rfl 32 _ rfl (w2.heap.size) rfl 32 _ _ _ ((((Blk.newAt rfl 32 (wcl false fun _ => 0)).alloc _).row _).row_far (by omega) _) Try.underlying32 rfl sz32 ?_)
    | ((with_reducible change wpList _ _ _ (Oper.mk (some 26) (Op.load 32 _) _ _ _ _ :: _) _ _); refine wpList_load_row rfl 32 _ rfl (w1.heap.size) rfl 32 _ _ _ (((((d3).alloc _).alloc _).row_far (by omega) _).row_far (by omega) _) Try.underlying32 rfl sz32 ?_))
  refine (calls_args (args' := #[wdv false M, wdv false M]) rfl (eqWide_refl false M _)).mono ?_
  rintro e w3 ⟨rfl, hb3⟩
  have d7 : Blk w3 (w2.heap.size + 1) 32 (wcl false (lb N)) := ((((Blk.newAt (by simp) 32 (wcl false fun _ => 0))).row_far (by omega) _).row _).later hb3
  replace d4 : Blk w3 (w1.heap.size + 1) 32 (wcl false (lb N)) := (((((d4).alloc _).alloc _).row_far (by omega) _).row_far (by omega) _).later hb3
  replace dB : Below w.heap.size w w3 := below_then (below_row (below_row (below_alloc (below_alloc dB _) _) (by omega) _) (by omega) _) hb3
  obtain ⟨a0, a1, a2, a3, a4, a5, a6⟩ := d7.seven
  obtain ⟨b0, b1, b2, b3, b4, b5, b6⟩ := d4.seven
  clear hb3
  go_wp2_with fail
  refine (calls_args (args' := #[wdv false N, wdv false N]) rfl (eqWide_refl false N _)).mono ?_
  rintro e w4 ⟨rfl, hb4⟩
  replace dB := below_then dB hb4
  go_wp2
  go_ret
  exact ⟨rfl, dB⟩
end Go.Proofs.Ytjgikfejfglllaa
