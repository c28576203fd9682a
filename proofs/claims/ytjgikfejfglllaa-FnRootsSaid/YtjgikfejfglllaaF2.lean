/- The law of roots: wide numbers, terms by index. -/
import Derived.Test.YtjgikfejfglllaaF1
set_option linter.unusedVariables false
set_option linter.unusedSimpArgs false
namespace Go.Proofs.Ytjgikfejfglllaa
open Go.RowKit


/-- What RootTermAt returns. -/
def rtaT (n k : Int) : Int × Int := if idxT n k 1000000000 = 0 then ((rterm (rootT n).1 (rootT n).2.1 k.toNat : Nat), 0) else (0, idxT n k 1000000000)

set_option maxHeartbeats 1000000 in
theorem rootTermAt_any (n k : Int) (h0 : -9223372036854775808 ≤ n) (h1 : n ≤ 9223372036854775807) (w : World) : Calls Try.prog 25 #[.int .i64 n, .int .i64 k] w fun e w' => e = .returned (.tuple #[.int .i64 (rtaT n k).1, .int .i64 (rtaT n k).2]) ∧ Below w.heap.size w w' := by
  unfold rtaT
  by_cases hD : idxT n k 1000000000 = 0
  · rw [if_pos hD]
    obtain ⟨g0, g1, g2⟩ := idx_zero hD
    obtain ⟨K, rfl⟩ : ∃ K : Nat, k = K := ⟨k.toNat, by omega⟩
    have hln := rootT_length n
    rw [Int.toNat_natCast]
    obtain ⟨f, l, cd, hX⟩ : ∃ f l cd, rootT n = (f, l, cd) := ⟨_, _, _, rfl⟩
    have hc := rootBegin_any n K 1000000000 h0 h1
    rw [hX] at hln g2 hc ⊢
    rw [hD] at hc
    clear hX hD
    simp only [] at hln g2 hc ⊢
    have ht := fun v w' hv => rootTerm_any f v l K (by omega) (fun h => g2 (by omega)) hln w' hv
    obtain ⟨T, hT⟩ : ∃ T, T = rterm f l K := ⟨_, rfl⟩
    rw [← hT] at ht ⊢
    clear hT g2 hln
    go_enter Try.func25, Try.ntmps25
    go_wp2_with fail
    refine (hc _).mono ?_
    rintro e w1 ⟨x, v, rfl, hx, hb1⟩
    obtain ⟨rfl, hv⟩ := hx trivial
    have ht := ht v w1 hv
    clear hc
    go_wp2_with (go_at_call 67; refine ht.mono ?_; rintro e w' ⟨rfl, rfl⟩)
    go_ret2
    exact ⟨rfl, hb1⟩
  · rw [if_neg hD]
    have b0 : (idxT n k 1000000000 != 0) = true := bne_iff_ne.2 hD
    obtain ⟨D, hDe⟩ : ∃ D, D = idxT n k 1000000000 := ⟨_, rfl⟩
    have hc := rootBegin_any n k 1000000000 h0 h1
    rw [← hDe] at hc b0 ⊢
    clear hDe hD
    go_enter Try.func25, Try.ntmps25
    go_wp2_with fail
    refine (hc _).mono ?_
    rintro e w1 ⟨x, v, rfl, hx, hb1⟩
    clear hx hc
    go_wp2
    go_ret2
    exact ⟨rfl, hb1⟩

set_option maxHeartbeats 1000000 in
theorem refTermAt_any (n k : Int) (h0 : -9223372036854775808 ≤ n) (h1 : n ≤ 9223372036854775807) (w : World) : Calls Try.prog 26 #[.int .i64 n, .int .i64 k] w fun e w' => e = .returned (.tuple #[.int .i64 (rtaT n k).1, .int .i64 (rtaT n k).2]) ∧ Below w.heap.size w w' := by
  unfold rtaT
  by_cases hD : idxT n k 1000000000 = 0
  · rw [if_pos hD]
    obtain ⟨g0, g1, g2⟩ := idx_zero hD
    obtain ⟨K, rfl⟩ : ∃ K : Nat, k = K := ⟨k.toNat, by omega⟩
    have hln := rootT_length n
    rw [Int.toNat_natCast]
    obtain ⟨f, l, cd, hX⟩ : ∃ f l cd, rootT n = (f, l, cd) := ⟨_, _, _, rfl⟩
    have hc := refIndex_any n K 1000000000 h0 h1
    rw [hX] at hln g2 hc ⊢
    rw [hD] at hc
    clear hX hD
    simp only [] at hln g2 hc ⊢
    have ht := fun v w' hv => refRootAt_any f v l K (by omega) (fun h => g2 (by omega)) hln w' hv
    obtain ⟨T, hT⟩ : ∃ T, T = rterm f l K := ⟨_, rfl⟩
    rw [← hT] at ht ⊢
    clear hT g2 hln
    go_enter Try.func26, Try.ntmps26
    go_wp2_with fail
    refine (hc _).mono ?_
    rintro e w1 ⟨x, v, rfl, hx, hb1⟩
    obtain ⟨rfl, hv⟩ := hx trivial
    have ht := ht v w1 hv
    clear hc
    go_wp2_with (go_at_call 68; refine ht.mono ?_; rintro e w' ⟨rfl, rfl⟩)
    go_ret2
    exact ⟨rfl, hb1⟩
  · rw [if_neg hD]
    have b0 : (idxT n k 1000000000 != 0) = true := bne_iff_ne.2 hD
    obtain ⟨D, hDe⟩ : ∃ D, D = idxT n k 1000000000 := ⟨_, rfl⟩
    have hc := refIndex_any n k 1000000000 h0 h1
    rw [← hDe] at hc b0 ⊢
    clear hDe hD
    go_enter Try.func26, Try.ntmps26
    go_wp2_with fail
    refine (hc _).mono ?_
    rintro e w1 ⟨x, v, rfl, hx, hb1⟩
    clear hx hc
    go_wp2
    go_ret2
    exact ⟨rfl, hb1⟩

set_option maxHeartbeats 1000000 in
theorem okN (g t : Nat) (M : Nat) (w : World) (hG : Blk w g t (wcl false (lb M))) : Calls Try.prog 69 #[.pointer (some ⟨g, 0, none⟩)] w fun e w' => e = .returned (.bool true) ∧ w = w' := by
  obtain ⟨a0, a1, a2, a3, a4, a5, a6⟩ := hG.seven
  go_enter Try.func69, Try.ntmps69
  go_wp2
  go_ret
  exact ⟨rfl, rfl⟩
theorem refWideOf (n : Nat) (h : n ≤ 9223372036854775807) (w : World) : Calls Try.prog 28 #[.int .i64 n] w fun e w' => e = .returned (wdv false n) ∧ Below w.heap.size w w' := by
  have hc := refOfN n h
  go_enter Try.func28, Try.ntmps28
  go_wp2_with fail
  refine (hc _).mono ?_
  rintro e w1 ⟨rfl, hb⟩
  have hR : Blk w1 w.heap.size 32 (wcl false fun _ => 0) := (Blk.newAt rfl 32 (wcl false fun _ => 0)).later hb
  go_wp2_with (refine wpList_store_row rfl 32 _ _ rfl w.heap.size _ rfl rfl 32 _ hR sz32 rfl (wcl_all _ _) ?_)
  refine bodyPost_ret (v := wdv false n) (res_row Try.results28 rfl (hR.row _) Try.underlying32 rfl sz32) rfl ⟨rfl, below_row (below_then (below_alloc (Below.refl _ _) _) hb) (Nat.le_refl _) _⟩

set_option maxHeartbeats 1000000 in
theorem mulWides (M N : Nat) (hM : M < pw 6) (hN : N < pw 6) (w : World) : Calls Try.prog 27 #[wdv false M, wdv false N] w fun e w' => e = .returned (.tuple #[wdv false (mz M N), .int .i64 (mcd M N)]) ∧ Below w.heap.size w w' := by
  unfold wdv
  have d2 : ∀ W : World, Blk (((W.alloc (.cells (wcl false (lb M)) 32)).alloc (.cells (wcl false (lb N)) 32)).alloc (.cells (wcl false fun _ => 0) 32)) W.heap.size 32 (wcl false (lb M)) := fun W => ((Blk.newAt rfl 32 (wcl false (lb M))).alloc _).alloc _
  have d3 : ∀ W : World, Blk (((W.alloc (.cells (wcl false (lb M)) 32)).alloc (.cells (wcl false (lb N)) 32)).alloc (.cells (wcl false fun _ => 0) 32)) (W.heap.size + 1) 32 (wcl false (lb N)) := fun W => (Blk.newAt (by simp) 32 (wcl false (lb N))).alloc _
  have d4 : ∀ W : World, Blk (((W.alloc (.cells (wcl false (lb M)) 32)).alloc (.cells (wcl false (lb N)) 32)).alloc (.cells (wcl false fun _ => 0) 32)) (W.heap.size + 1 + 1) 32 (wcl false fun _ => 0) := fun W => Blk.newAt (by simp) 32 (wcl false fun _ => 0)
  go_enter Try.func27, Try.ntmps27
  go_wp2_with fail
  refine (okN _ 32 M _ (d2 w)).mono ?_
  rintro e w1 ⟨rfl, rfl⟩
  go_wp2_with fail
  refine (okN _ 32 N _ (d3 w)).mono ?_
  rintro e w1 ⟨rfl, rfl⟩
  go_wp2_with (first
    | ((with_reducible change wpList _ _ _ (Oper.mk (some 13) (Op.load 32 _) _ _ _ _ :: _) _ _); refine wpList_load_row rfl 32 _ rfl (w.heap.size) rfl 32 _ _ _ (d2 w) Try.underlying32 rfl sz32 ?_)
    | ((with_reducible change wpList _ _ _ (Oper.mk (some 14) (Op.load 32 _) _ _ _ _ :: _) _ _); refine wpList_load_row rfl 32 _ rfl (w.heap.size + 1) rfl 32 _ _ _ (d3 w) Try.underlying32 rfl sz32 ?_))
  refine (calls_args (args' := #[wdv false M, wdv false N]) rfl (refMulZ M N hM hN _)).mono ?_
  rintro e w2 ⟨rfl, hb⟩
  have e4 := (d4 w).later hb
  have y4 := e4.lt
  have eB : Below w.heap.size w w2 := below_then (below_alloc (below_alloc (below_alloc (Below.refl _ _) _) _) _) hb
  go_wp2_with (first
    | ((with_reducible change wpList _ _ _ (Oper.mk none (Op.store 32 (Operand.tmp 4) _) _ _ _ _ :: _) _ _); refine wpList_store_row rfl 32 _ _ rfl (w.heap.size + 1 + 1) (wcl false (lb (mz M N))) rfl rfl 32 _ (e4) sz32 rfl (wcl_all _ _) ?_))
  exact bodyPost_ret (v := .tuple #[wdv false (mz M N), .int .i64 (mcd M N)]) (res_row_tmp Try.results27 rfl (e4.row _) Try.underlying32 rfl sz32) rfl ⟨rfl, below_row eB (by omega) _⟩
end Go.Proofs.Ytjgikfejfglllaa
