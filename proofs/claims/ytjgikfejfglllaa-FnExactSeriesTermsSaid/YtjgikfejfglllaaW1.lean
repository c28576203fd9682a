/- The sizes of the program: one, the sum, the difference, the wide integer of a sign and a size. -/
import Derived.Test.YtjgikfejfglllaaNum
namespace Go.Proofs.Ytjgikfejfglllaa
open Go.RowKit

theorem one_any (w : World) : Calls Try.prog 106 #[] w fun e w' => e = .returned (szv 1) ∧ Below w.heap.size w w' := by
  go_enter Try.func106, Try.ntmps106
  go_wp2
  refine bodyPost_ret (v := szv 1) (by simp [results, Try.results106, go_sem, szv, cl, lb]) rfl ⟨rfl, ?_⟩
  exact (Below.refl _ _).alloc (Nat.le_refl _) _

/-- The first rows of the sum, and the rest of what was there. -/
def upto (k : Nat) (f g : Nat → Nat) : Nat → Nat := fun j => if j < k then f j else g j
theorem upto_at (k : Nat) (f g : Nat → Nat) : upto k f g k = g k := by simp [upto]
theorem upto_six (f g : Nat → Nat) : cl (upto 6 f g) = cl f := rfl
theorem upto_zero (f g : Nat → Nat) : upto 0 f g = g := by funext j; simp [upto]
theorem upto_step {w : World} {b t : Nat} {k v : Nat} {f g : Nat → Nat} (h : Blk w b t (cl (upto k f g))) (hk : k < 6) (hv : f k = v) : Blk (w.setCell ⟨b, k, none⟩ (.int .u32 v)) b t (cl (upto (k + 1) f g)) := by
  refine h.step hk (by simp [upto, hv]) fun j _ hj => ?_
  by_cases e : j < k
  · simp [upto, e, show j < k + 1 by omega]
  · simp [upto, e, show ¬ j < k + 1 by omega]

set_option maxHeartbeats 400000 in
theorem plus_any (M N : Nat) (w : World) :
    Calls Try.prog 143 #[szv M, szv N] w fun e w' => e = .returned (.tuple #[szv (M + N), .bool (decide (cy M N 6 ≠ 0))]) ∧ Below w.heap.size w w' := by
  unfold szv
  go_enter Try.func143, Try.ntmps143
  go_wp2
  go_loopw [6, 8] (fun c i wr => ∃ k : Nat, k ≤ 6 ∧ i = .int .i64 k ∧ c = .int .u64 (cy M N k) ∧ Blk wr w.heap.size 136 (cl (upto k (lb (M + N)) (lb M))) ∧ Blk wr (w.heap.size + 1) 136 (cl (lb N)) ∧ Blk wr (w.heap.size + 1 + 1) 136 (cl fun _ => 0) ∧ Below w.heap.size w wr)
    (fun _ i _ => 6 - (intOf i).toNat)
  case atStart =>
    refine ⟨0, by omega, rfl, by simp [cy_zero], ?_, ?_, ?_, ?_⟩
    · rw [upto_zero]
      exact ((Blk.new w 136 (cl (lb M))).alloc _).alloc _
    · exact (Blk.newAt (by simp) 136 (cl (lb N))).alloc _
    · exact Blk.newAt (by simp) 136 (cl fun _ => 0)
    · exact below_alloc (below_alloc (below_alloc (Below.refl _ _) _) _) _
  case round =>
    obtain ⟨k, hk, rfl, rfl, hA, hB, hC, hb⟩ := hrel
    have hc1 := cy_le M N k
    by_cases hlt : k < 6
    · have cA := hA.at_ hlt
      rw [upto_at] at cA
      have cB := hB.at_ hlt
      have fA := hA.frozen k
      have hx := lb_le M k
      have hy := lb_le N k
      go_wp2
      go_quiet (fail)
      go_wp2
      go_roundw
      case rel =>
        refine ⟨k + 1, by omega, by go_num, ?_, ?_, ?_, ?_, ?_⟩
        · rw [cy_succ]; rfl
        · have := upto_step (hA.drewN nq) hlt (lb_sum M N k)
          simpa using this
        · exact (hB.drewN nq).far (by simp <;> omega) _
        · exact (hC.drewN nq).far (by simp <;> omega) _
        · exact below_set (below_drewN hb nq) (by simp) _
      case measure => simp [intOf]; omega
    · obtain rfl : k = 6 := by omega
      clear hlt hk
      rw [upto_six] at hA
      obtain ⟨c0, c1, c2, c3, c4, c5⟩ := hA.six
      obtain ⟨f0, f1, f2, f3, f4, f5, f6⟩ := hC.froz
      obtain ⟨d0, d1, d2, d3, d4, d5⟩ := hC.six
      go_wp2
      refine bodyPost_ret (v := .tuple #[szv (M + N), .bool (decide (cy M N 6 ≠ 0))]) ?_ rfl ⟨rfl, below_put6 hb (by omega) _ _ _ _ _ _⟩
      rw [res_row_tmp Try.results143 rfl (hC.put6 rfl _ _ _ _ _ _) Try.underlying136 rfl sz136]
      by_cases hz : cy M N 6 = 0 <;> simp [szv, cl, hz]
end Go.Proofs.Ytjgikfejfglllaa
