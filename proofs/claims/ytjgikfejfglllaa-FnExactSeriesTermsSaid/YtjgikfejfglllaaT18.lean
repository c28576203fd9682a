/- The laws of series: the walks. -/
import Derived.Test.YtjgikfejfglllaaT17
import Derived.Test.YtjgikfejfglllaaT15
set_option linter.unusedVariables false
set_option linter.unusedSimpArgs false
namespace Go.Proofs.Ytjgikfejfglllaa
open Go.RowKit


set_option maxHeartbeats 1000000 in
theorem toSeries_any (a b c d : Int) (t : Bool) (w : World) : Calls Try.prog 13 #[.agg (serC a b c d t)] w fun e w' => e = .returned (.agg (serC a b c d t)) ∧ Below w.heap.size w w' := by
  unfold serC
  go_enter Try.func13, Try.ntmps13
  go_wp2
  refine bodyPost_ret (v := .agg (serC a b c d t)) (by simp [results, Try.results13, go_sem, serC]) rfl ⟨rfl, ?_⟩
  exact below_alloc (below_alloc (below_alloc (Below.refl _ _) _) _) _
/-- What SeriesTerms answers. -/
def srT (a b c d n : Int) : Nat × Int := if vsr a b c d then if wi n 0 64 then (stn a.toNat b.toNat (2 ^ (n.toNat + 10)), 0) else (0, 2) else (0, 1)
set_option maxHeartbeats 1000000 in
theorem seriesTerms_any (a b c d : Int) (t : Bool) (n : Int) (w : World) : Calls Try.prog 14 #[.agg (serC a b c d t), .int .i64 n] w fun e w' => e = .returned (.tuple #[.int .i64 (srT a b c d n).1, .int .i64 (srT a b c d n).2]) ∧ Below w.heap.size w w' := by
  unfold srT
  by_cases hv : vsr a b c d = true
  · by_cases hp : wi n 0 64 = true
    · rw [if_pos hv, if_pos hp]
      obtain ⟨A, B, C, D, rfl, rfl, rfl, rfl, g1, g2, g3, g4, g5, g6, g7⟩ := vsr_nat hv
      obtain ⟨N, rfl, hN⟩ : ∃ N : Nat, n = N ∧ N ≤ 64 := ⟨n.toNat, by simp [wi] at hp; omega, by simp [wi] at hp; omega⟩
      simp only [Int.toNat_natCast]
      have hva := fun w => valid_any A B C D t w
      rw [hv] at hva
      have hpl := fun w => places_imp N w
      rw [hp] at hpl
      have hpa := fun w => parts_any A B C D t N g1 g2 g3 g4 hN w
      unfold serC at hva hpa ⊢
      clear hv hp
      go_enter Try.func14, Try.ntmps14
      go_wp2_with fail
      refine (hva _).mono ?_
      rintro e w1 ⟨rfl, hb1⟩
      obtain ⟨c0, f0⟩ := bcell hb1
      have hS : Blk w1 w.heap.size 26 #[.int .i64 A, .int .i64 B, .int .i64 C, .int .i64 D, .bool t] := (Blk.newAt rfl 26 _).later hb1
      have k0 : w1.cell? ⟨w.heap.size, 0, none⟩ = some (.int .i64 A) := hS.cell 0
      have k1 : w1.cell? ⟨w.heap.size, 1, none⟩ = some (.int .i64 B) := hS.cell 1
      have k2 : w1.cell? ⟨w.heap.size, 2, none⟩ = some (.int .i64 C) := hS.cell 2
      have k3 : w1.cell? ⟨w.heap.size, 3, none⟩ = some (.int .i64 D) := hS.cell 3
      have k4 : w1.cell? ⟨w.heap.size, 4, none⟩ = some (.bool t) := hS.cell 4
      clear c0 f0
      go_wp2_with (go_at_call 56; refine (hpl _).mono ?_; rintro e w' ⟨rfl, rfl⟩)
      refine (hpa _).mono ?_
      rintro e w2 ⟨v, rfl, hl, ⟨VA, VC, hv⟩, hb2⟩
      rw [hl] at hv
      subst hv
      go_wp2
      go_ret2
      exact ⟨rfl, below_then (below_then (below_alloc (Below.refl _ _) _) hb1) hb2⟩
    · have hp : wi n 0 64 = false := by simpa using hp
      rw [if_pos hv, if_neg (by rw [hp]; simp)]
      have hva := fun w => valid_any a b c d t w
      rw [hv] at hva
      have hpl := fun w => places_imp n w
      rw [hp] at hpl
      unfold serC at hva ⊢
      clear hv hp
      go_enter Try.func14, Try.ntmps14
      go_wp2_with fail
      refine (hva _).mono ?_
      rintro e w1 ⟨rfl, hb1⟩
      go_wp2_with (go_at_call 56; refine (hpl _).mono ?_; rintro e w' ⟨rfl, rfl⟩)
      go_ret2
      exact ⟨rfl, below_then (below_alloc (Below.refl _ _) _) hb1⟩
  · have hv : vsr a b c d = false := by simpa using hv
    rw [if_neg (by rw [hv]; simp)]
    have hva := fun w => valid_any a b c d t w
    rw [hv] at hva
    unfold serC at hva ⊢
    clear hv
    go_enter Try.func14, Try.ntmps14
    go_wp2_with fail
    refine (hva _).mono ?_
    rintro e w1 ⟨rfl, hb1⟩
    go_wp2
    go_ret2
    exact ⟨rfl, below_then (below_alloc (Below.refl _ _) _) hb1⟩
set_option maxHeartbeats 1000000 in
theorem refSeriesTerms_any (a b c d : Int) (t : Bool) (n : Int) (w : World) : Calls Try.prog 12 #[.agg (serC a b c d t), .int .i64 n] w fun e w' => e = .returned (.tuple #[.int .i64 (srT a b c d n).1, .int .i64 (srT a b c d n).2]) ∧ Below w.heap.size w w' := by
  have hG : Blk (w.alloc (.cells (serC a b c d t) 26)) w.heap.size 26 (serC a b c d t) := Blk.newAt rfl 26 _
  have hli := limited_ref w.heap.size 26 a b c d t n _ hG
  unfold srT
  by_cases hv : vsr a b c d = true
  · rw [if_pos hv] at hli ⊢
    by_cases hp : wi n 0 64 = true
    · rw [if_pos hp] at hli ⊢
      obtain ⟨A, B, C, D, rfl, rfl, rfl, rfl, g1, g2, g3, g4, g5, g6, g7⟩ := vsr_nat hv
      obtain ⟨N, rfl, hN⟩ : ∃ N : Nat, n = N ∧ N ≤ 64 := ⟨n.toNat, by simp [wi] at hp; omega, by simp [wi] at hp; omega⟩
      simp only [Int.toNat_natCast]
      have hsu := fun g w hG => sum_any g 26 A B C D t N g1 g2 g3 g4 g5 g6 g7 hN w hG
      unfold serC at hli hG hsu ⊢
      clear hv hp
      go_enter Try.func12, Try.ntmps12
      go_wp2_with fail
      refine hli.mono ?_
      rintro e w1 ⟨rfl, nd, rfl⟩
      go_wp2_with fail
      refine (hsu _ _ (hG.drewN nd)).mono ?_
      rintro e w2 ⟨sn, M, hM, rfl, hb2⟩
      go_wp2_with (refine wpList_store_row rfl 32 _ _ rfl w2.heap.size (wcl sn (lb M)) rfl rfl 32 _ (Blk.newAt rfl 32 (wcl false fun _ => 0)) sz32 rfl (wcl_all _ _) ?_)
      go_ret2
      exact ⟨rfl, below_row (below_alloc (below_then (below_drewN (below_alloc (Below.refl _ _) _) nd) hb2) _) (Nat.le_trans (Nat.le_succ _) (by simpa using hb2.size)) _⟩
    · rw [if_neg hp] at hli ⊢
      unfold serC at hli ⊢
      clear hv hp hG
      go_enter Try.func12, Try.ntmps12
      go_wp2_with fail
      refine hli.mono ?_
      rintro e w1 ⟨rfl, nd, rfl⟩
      go_wp2
      go_ret2
      exact ⟨rfl, below_drewN (below_alloc (Below.refl _ _) _) nd⟩
  · rw [if_neg hv] at hli ⊢
    unfold serC at hli ⊢
    clear hv hG
    go_enter Try.func12, Try.ntmps12
    go_wp2_with fail
    refine hli.mono ?_
    rintro e w1 ⟨rfl, nd, rfl⟩
    go_wp2
    go_ret2
    exact ⟨rfl, below_drewN (below_alloc (Below.refl _ _) _) nd⟩
set_option maxHeartbeats 1000000 in
theorem lawSeriesTerms (a b c d : Int) (t : Bool) (n : Int) (w : World) : Calls Try.prog 3 #[.agg (serC a b c d t), .int .i64 n] w fun e w' => e = .returned (.bool true) ∧ Below w.heap.size w w' := by
  have h1 := fun w => refSeriesTerms_any a b c d t n w
  have h2 := fun w => seriesTerms_any a b c d t n w
  have h3 := fun w => toSeries_any a b c d t w
  obtain ⟨K, hK⟩ : ∃ K, K = (srT a b c d n).1 := ⟨_, rfl⟩
  obtain ⟨C, hC⟩ : ∃ C, C = (srT a b c d n).2 := ⟨_, rfl⟩
  simp only [← hK, ← hC] at h1 h2
  clear hK hC
  unfold serC at h1 h2 h3 ⊢
  go_enter Try.func3, Try.ntmps3
  go_wp2_with fail
  refine (h3 _).mono ?_
  rintro e w1 ⟨rfl, hb1⟩
  go_wp2_with fail
  refine (h1 _).mono ?_
  rintro e w2 ⟨rfl, hb2⟩
  have hS : Blk w2 w.heap.size 23 #[.int .i64 a, .int .i64 b, .int .i64 c, .int .i64 d, .bool t] := ((Blk.newAt rfl 23 _).later hb1).later hb2
  have k0 : w2.cell? ⟨w.heap.size, 0, none⟩ = some (.int .i64 a) := hS.cell 0
  have k1 : w2.cell? ⟨w.heap.size, 1, none⟩ = some (.int .i64 b) := hS.cell 1
  have k2 : w2.cell? ⟨w.heap.size, 2, none⟩ = some (.int .i64 c) := hS.cell 2
  have k3 : w2.cell? ⟨w.heap.size, 3, none⟩ = some (.int .i64 d) := hS.cell 3
  have k4 : w2.cell? ⟨w.heap.size, 4, none⟩ = some (.bool t) := hS.cell 4
  have hB2 := below_then (below_then (below_alloc (Below.refl w.heap.size w) _) hb1) hb2
  clear hb1 hb2
  go_wp2_with fail
  refine (h3 _).mono ?_
  rintro e w3 ⟨rfl, hb3⟩
  go_wp2_with fail
  refine (h2 _).mono ?_
  rintro e w4 ⟨rfl, hb4⟩
  go_wp2
  go_ret
  exact ⟨rfl, below_then (below_then hB2 hb3) hb4⟩
end Go.Proofs.Ytjgikfejfglllaa
