/- RootConvergent, in the program and in the reference. -/
import Derived.Test.YtjgikfejfglllaaC3
set_option linter.unusedVariables false
set_option linter.unusedSimpArgs false
namespace Go.Proofs.Ytjgikfejfglllaa
open Go.RowKit


theorem idx_zero {n k most : Int} (h : idxT n k most = 0) : 0 ≤ k ∧ k ≤ most ∧ (0 < k → (rootT n).2.1 ≠ []) := by
  unfold idxT at h
  split at h
  · rename_i hw
    split at h
    · cases h
    · rename_i hc
      simp [wi] at hw
      refine ⟨by omega, by omega, fun hk hl => hc ⟨h, hl, hk⟩⟩
  · cases h
/-- What RootConvergent returns. -/
def cvT (n k : Int) : Value := if idxT n k 1000 = 0 then cvalue (crun (rootT n).1 (rootT n).2.1 (k.toNat + 1) 0 1 0 0 1) else .tuple #[wdv false 0, wdv false 0, .int .i64 (idxT n k 1000)]
/-- The index of the last term of the unit. -/
def unitK (n : Int) : Nat := if (rootT n).2.1.length % 2 = 1 then 2 * (rootT n).2.1.length - 1 else (rootT n).2.1.length - 1
/-- What UnitOf returns. -/
def unT (n : Int) : Value := if (rootT n).2.2 = 0 then if (rootT n).2.1 = [] then .tuple #[wdv false 0, wdv false 0, .int .i64 4] else cvalue (crun (rootT n).1 (rootT n).2.1 (unitK n + 1) 0 1 0 0 1) else .tuple #[wdv false 0, wdv false 0, .int .i64 (rootT n).2.2]

set_option maxHeartbeats 2000000 in
set_option maxRecDepth 100000 in
theorem rootConvergent_any (n k : Int) (h0 : -9223372036854775808 ≤ n) (h1 : n ≤ 9223372036854775807) (w : World) : Calls Try.prog 19 #[.int .i64 n, .int .i64 k] w fun e w' => e = .returned (cvT n k) ∧ Below w.heap.size w w' := by
  have E0 : lb 0 = fun _ => 0 := funext fun k => lb_zero k
  unfold cvT
  by_cases hD : idxT n k 1000 = 0
  · rw [if_pos hD]
    obtain ⟨g0, g1, g2⟩ := idx_zero hD
    obtain ⟨K, rfl⟩ : ∃ K : Nat, k = K := ⟨k.toNat, by omega⟩
    have hsm := rootT_small n
    have hln := rootT_length n
    rw [Int.toNat_natCast]
    obtain ⟨f, l, cd, hX⟩ : ∃ f l cd, rootT n = (f, l, cd) := ⟨_, _, _, rfl⟩
    have HX := Lib.hid hX
    have HD := Lib.hid hD
    have hc := rootBegin_any n K 1000 h0 h1
    rw [hX] at hsm hln g2 hc ⊢
    rw [hD] at hc
    clear hX hD
    simp only [] at hsm hln g2 hc ⊢
    go_enter Try.func19, Try.ntmps19
    go_wp2_with fail
    refine (hc _).mono ?_
    rintro e w1 ⟨x, v, rfl, hx, hb1⟩
    obtain ⟨rfl, hv⟩ := hx trivial
    have d4 : Blk w1 w.heap.size 32 (wcl false fun _ => 0) := ((Blk.newAt (by simp) 32 (wcl false fun _ => 0)).alloc _).later hb1
    have d5 : Blk w1 (w.heap.size + 1) 32 (wcl false fun _ => 0) := (Blk.newAt (by simp) 32 (wcl false fun _ => 0)).later hb1
    have dB : Below w.heap.size w w1 := below_then (below_alloc (below_alloc (Below.refl _ _) _) _) hb1
    have y4 := d4.lt
    have y5 := d5.lt
    have hcv := rootConv_any f v l K (by omega) (by omega) hsm.2 (fun h => g2 (by omega)) hln w1 hv
    have HC := Lib.hid hsm
    clear hc hsm hx g2
    go_wp2_with fail
    refine hcv.mono ?_
    rintro e w2 ⟨rfl, hb2⟩
    clear hcv
    replace d4 := d4.later hb2
    replace d5 := d5.later hb2
    have dB2 := below_then dB hb2
    have y4 := d4.lt
    have y5 := d5.lt
    cases hR : crun f l (K + 1) 0 1 0 0 1 with
    | none =>
      unfold cvalue
      go_wp2_with (first
        | ((with_reducible change wpList _ _ _ (Oper.mk none (Op.store 32 (Operand.tmp 4) _) _ _ _ _ :: _) _ _); refine wpList_store_row rfl 32 _ _ rfl (w.heap.size) (wcl false (lb (0))) rfl rfl 32 _ (d4) sz32 rfl (wcl_all _ _) ?_)
        | ((with_reducible change wpList _ _ _ (Oper.mk none (Op.store 32 (Operand.tmp 5) _) _ _ _ _ :: _) _ _); refine wpList_store_row rfl 32 _ _ rfl (w.heap.size + 1) (wcl false (lb (0))) rfl rfl 32 _ ((d5).row_far (by omega) _) sz32 rfl (wcl_all _ _) ?_))
      exact bodyPost_ret (v := .tuple #[wdv false (0), wdv false (0), .int .i64 3]) (res_row_row_tmp Try.results19 rfl ((d4.row _).row_far (by omega) _) rfl ((d5.row_far (by omega) _).row _) Try.underlying32 rfl sz32 Try.underlying32 rfl sz32) rfl ⟨congrArg Ending.returned (by rw [hR]; rfl), below_row (below_row dB2 (by omega) _) (by omega) _⟩
    | some pq =>
      unfold cvalue
      go_wp2_with (first
        | ((with_reducible change wpList _ _ _ (Oper.mk none (Op.store 32 (Operand.tmp 4) _) _ _ _ _ :: _) _ _); refine wpList_store_row rfl 32 _ _ rfl (w.heap.size) (wcl false (lb (pq.1))) rfl rfl 32 _ (d4) sz32 rfl (wcl_all _ _) ?_)
        | ((with_reducible change wpList _ _ _ (Oper.mk none (Op.store 32 (Operand.tmp 5) _) _ _ _ _ :: _) _ _); refine wpList_store_row rfl 32 _ _ rfl (w.heap.size + 1) (wcl false (lb (pq.2))) rfl rfl 32 _ ((d5).row_far (by omega) _) sz32 rfl (wcl_all _ _) ?_))
      exact bodyPost_ret (v := .tuple #[wdv false (pq.1), wdv false (pq.2), .int .i64 0]) (res_row_row_tmp Try.results19 rfl ((d4.row _).row_far (by omega) _) rfl ((d5.row_far (by omega) _).row _) Try.underlying32 rfl sz32 Try.underlying32 rfl sz32) rfl ⟨congrArg Ending.returned (by rw [hR]; rfl), below_row (below_row dB2 (by omega) _) (by omega) _⟩
  · rw [if_neg hD]
    have b0 : (idxT n k 1000 != 0) = true := bne_iff_ne.2 hD
    obtain ⟨D, hDe⟩ : ∃ D, D = idxT n k 1000 := ⟨_, rfl⟩
    have hc := rootBegin_any n k 1000 h0 h1
    rw [← hDe] at hc b0 ⊢
    clear hDe hD
    go_enter Try.func19, Try.ntmps19
    go_wp2_with fail
    refine (hc _).mono ?_
    rintro e w1 ⟨x, v, rfl, hx, hb1⟩
    clear hx hc
    have d4 : Blk w1 w.heap.size 32 (wcl false fun _ => 0) := ((Blk.newAt (by simp) 32 (wcl false fun _ => 0)).alloc _).later hb1
    have d5 : Blk w1 (w.heap.size + 1) 32 (wcl false fun _ => 0) := (Blk.newAt (by simp) 32 (wcl false fun _ => 0)).later hb1
    have dB : Below w.heap.size w w1 := below_then (below_alloc (below_alloc (Below.refl _ _) _) _) hb1
    have y4 := d4.lt
    have y5 := d5.lt
    go_wp2_with (first
      | ((with_reducible change wpList _ _ _ (Oper.mk none (Op.store 32 (Operand.tmp 4) _) _ _ _ _ :: _) _ _); refine wpList_store_row rfl 32 _ _ rfl (w.heap.size) (wcl false fun _ => 0) rfl rfl 32 _ (d4) sz32 rfl (wcl_all _ _) ?_)
      | ((with_reducible change wpList _ _ _ (Oper.mk none (Op.store 32 (Operand.tmp 5) _) _ _ _ _ :: _) _ _); refine wpList_store_row rfl 32 _ _ rfl (w.heap.size + 1) (wcl false fun _ => 0) rfl rfl 32 _ ((d5).row_far (by omega) _) sz32 rfl (wcl_all _ _) ?_))
    refine bodyPost_ret (v := .tuple #[wdv false 0, wdv false 0, .int .i64 (D)]) ((res_row_row_tmp Try.results19 rfl (((d4).row (wcl false fun _ => 0)).row_far (by omega) (wcl false fun _ => 0)) rfl (((d5).row_far (by omega) (wcl false fun _ => 0)).row (wcl false fun _ => 0)) Try.underlying32 rfl sz32 Try.underlying32 rfl sz32).trans ?_) rfl ⟨rfl, below_row (below_row (dB) (by omega) _) (by omega) _⟩
    simp [wdv, E0]

set_option maxHeartbeats 2000000 in
set_option maxRecDepth 100000 in
theorem refConvergent_any (n k : Int) (h0 : -9223372036854775808 ≤ n) (h1 : n ≤ 9223372036854775807) (w : World) : Calls Try.prog 18 #[.int .i64 n, .int .i64 k] w fun e w' => e = .returned (cvT n k) ∧ Below w.heap.size w w' := by
  have E0 : lb 0 = fun _ => 0 := funext fun k => lb_zero k
  unfold cvT
  by_cases hD : idxT n k 1000 = 0
  · rw [if_pos hD]
    obtain ⟨g0, g1, g2⟩ := idx_zero hD
    obtain ⟨K, rfl⟩ : ∃ K : Nat, k = K := ⟨k.toNat, by omega⟩
    have hsm := rootT_small n
    have hln := rootT_length n
    rw [Int.toNat_natCast]
    obtain ⟨f, l, cd, hX⟩ : ∃ f l cd, rootT n = (f, l, cd) := ⟨_, _, _, rfl⟩
    have HX := Lib.hid hX
    have HD := Lib.hid hD
    have hc := refIndex_any n K 1000 h0 h1
    rw [hX] at hsm hln g2 hc ⊢
    rw [hD] at hc
    clear hX hD
    simp only [] at hsm hln g2 hc ⊢
    go_enter Try.func18, Try.ntmps18
    go_wp2_with fail
    refine (hc _).mono ?_
    rintro e w1 ⟨x, v, rfl, hx, hb1⟩
    obtain ⟨rfl, hv⟩ := hx trivial
    have d4 : Blk w1 w.heap.size 32 (wcl false fun _ => 0) := ((Blk.newAt (by simp) 32 (wcl false fun _ => 0)).alloc _).later hb1
    have d5 : Blk w1 (w.heap.size + 1) 32 (wcl false fun _ => 0) := (Blk.newAt (by simp) 32 (wcl false fun _ => 0)).later hb1
    have dB : Below w.heap.size w w1 := below_then (below_alloc (below_alloc (Below.refl _ _) _) _) hb1
    have y4 := d4.lt
    have y5 := d5.lt
    have hcv := refParts_any f v l K (by omega) (by omega) hsm.2 (fun h => g2 (by omega)) hln w1 hv
    have HC := Lib.hid hsm
    clear hc hsm hx g2
    go_wp2_with fail
    refine hcv.mono ?_
    rintro e w2 ⟨rfl, hb2⟩
    clear hcv
    replace d4 := d4.later hb2
    replace d5 := d5.later hb2
    have dB2 := below_then dB hb2
    have y4 := d4.lt
    have y5 := d5.lt
    cases hR : crun f l (K + 1) 0 1 0 0 1 with
    | none =>
      unfold cvalue
      go_wp2_with (first
        | ((with_reducible change wpList _ _ _ (Oper.mk none (Op.store 32 (Operand.tmp 4) _) _ _ _ _ :: _) _ _); refine wpList_store_row rfl 32 _ _ rfl (w.heap.size) (wcl false (lb (0))) rfl rfl 32 _ (d4) sz32 rfl (wcl_all _ _) ?_)
        | ((with_reducible change wpList _ _ _ (Oper.mk none (Op.store 32 (Operand.tmp 5) _) _ _ _ _ :: _) _ _); refine wpList_store_row rfl 32 _ _ rfl (w.heap.size + 1) (wcl false (lb (0))) rfl rfl 32 _ ((d5).row_far (by omega) _) sz32 rfl (wcl_all _ _) ?_))
      exact bodyPost_ret (v := .tuple #[wdv false (0), wdv false (0), .int .i64 3]) (res_row_row_tmp Try.results18 rfl ((d4.row _).row_far (by omega) _) rfl ((d5.row_far (by omega) _).row _) Try.underlying32 rfl sz32 Try.underlying32 rfl sz32) rfl ⟨congrArg Ending.returned (by rw [hR]; rfl), below_row (below_row dB2 (by omega) _) (by omega) _⟩
    | some pq =>
      unfold cvalue
      go_wp2_with (first
        | ((with_reducible change wpList _ _ _ (Oper.mk none (Op.store 32 (Operand.tmp 4) _) _ _ _ _ :: _) _ _); refine wpList_store_row rfl 32 _ _ rfl (w.heap.size) (wcl false (lb (pq.1))) rfl rfl 32 _ (d4) sz32 rfl (wcl_all _ _) ?_)
        | ((with_reducible change wpList _ _ _ (Oper.mk none (Op.store 32 (Operand.tmp 5) _) _ _ _ _ :: _) _ _); refine wpList_store_row rfl 32 _ _ rfl (w.heap.size + 1) (wcl false (lb (pq.2))) rfl rfl 32 _ ((d5).row_far (by omega) _) sz32 rfl (wcl_all _ _) ?_))
      exact bodyPost_ret (v := .tuple #[wdv false (pq.1), wdv false (pq.2), .int .i64 0]) (res_row_row_tmp Try.results18 rfl ((d4.row _).row_far (by omega) _) rfl ((d5.row_far (by omega) _).row _) Try.underlying32 rfl sz32 Try.underlying32 rfl sz32) rfl ⟨congrArg Ending.returned (by rw [hR]; rfl), below_row (below_row dB2 (by omega) _) (by omega) _⟩
  · rw [if_neg hD]
    have b0 : (idxT n k 1000 != 0) = true := bne_iff_ne.2 hD
    obtain ⟨D, hDe⟩ : ∃ D, D = idxT n k 1000 := ⟨_, rfl⟩
    have hc := refIndex_any n k 1000 h0 h1
    rw [← hDe] at hc b0 ⊢
    clear hDe hD
    go_enter Try.func18, Try.ntmps18
    go_wp2_with fail
    refine (hc _).mono ?_
    rintro e w1 ⟨x, v, rfl, hx, hb1⟩
    clear hx hc
    have d4 : Blk w1 w.heap.size 32 (wcl false fun _ => 0) := ((Blk.newAt (by simp) 32 (wcl false fun _ => 0)).alloc _).later hb1
    have d5 : Blk w1 (w.heap.size + 1) 32 (wcl false fun _ => 0) := (Blk.newAt (by simp) 32 (wcl false fun _ => 0)).later hb1
    have dB : Below w.heap.size w w1 := below_then (below_alloc (below_alloc (Below.refl _ _) _) _) hb1
    have y4 := d4.lt
    have y5 := d5.lt
    go_wp2_with (first
      | ((with_reducible change wpList _ _ _ (Oper.mk none (Op.store 32 (Operand.tmp 4) _) _ _ _ _ :: _) _ _); refine wpList_store_row rfl 32 _ _ rfl (w.heap.size) (wcl false fun _ => 0) rfl rfl 32 _ (d4) sz32 rfl (wcl_all _ _) ?_)
      | ((with_reducible change wpList _ _ _ (Oper.mk none (Op.store 32 (Operand.tmp 5) _) _ _ _ _ :: _) _ _); refine wpList_store_row rfl 32 _ _ rfl (w.heap.size + 1) (wcl false fun _ => 0) rfl rfl 32 _ ((d5).row_far (by omega) _) sz32 rfl (wcl_all _ _) ?_))
    refine bodyPost_ret (v := .tuple #[wdv false 0, wdv false 0, .int .i64 (D)]) ((res_row_row_tmp Try.results18 rfl (((d4).row (wcl false fun _ => 0)).row_far (by omega) (wcl false fun _ => 0)) rfl (((d5).row_far (by omega) (wcl false fun _ => 0)).row (wcl false fun _ => 0)) Try.underlying32 rfl sz32 Try.underlying32 rfl sz32).trans ?_) rfl ⟨rfl, below_row (below_row (dB) (by omega) _) (by omega) _⟩
    simp [wdv, E0]
end Go.Proofs.Ytjgikfejfglllaa
