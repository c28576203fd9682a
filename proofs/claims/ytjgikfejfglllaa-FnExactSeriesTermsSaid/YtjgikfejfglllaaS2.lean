/- The reference's sums, differences and comparisons of sizes, behind pointers. -/
import Derived.Test.YtjgikfejfglllaaW3
import Derived.Test.YtjgikfejfglllaaRow
import Derived.Laws.ResultCell
set_option linter.unusedVariables false
set_option linter.unusedSimpArgs false
namespace Go.Proofs.Ytjgikfejfglllaa
open Go.RowKit


set_option maxHeartbeats 400000 in
theorem refPlus_any (g h : Nat) (M N : Nat) (w : World) (hG : Blk w g 147 (cl (lb M))) (hH : Blk w h 147 (cl (lb N))) :
    Calls Try.prog 116 #[.pointer (some ⟨g, 0, none⟩), .pointer (some ⟨h, 0, none⟩)] w fun e w' => e = .returned (.tuple #[szv (M + N), .bool (decide (cy M N 6 = 0))]) ∧ Below w.heap.size w w' := by
  have lg := hG.lt
  have lh := hH.lt
  unfold szv
  go_enter Try.func116, Try.ntmps116
  go_wp2
  go_loopw [7, 8] (fun c i wr => ∃ k : Nat, k ≤ 6 ∧ i = .int .i64 k ∧ c = .int .u64 (cy M N k) ∧ Blk wr g 147 (cl (lb M)) ∧ Blk wr h 147 (cl (lb N)) ∧ Blk wr w.heap.size 147 (cl fun _ => 0) ∧ Blk wr (w.heap.size + 1) 147 (cl (upto k (lb (M + N)) fun _ => 0)) ∧ Below w.heap.size w wr)
    (fun _ i _ => 6 - (intOf i).toNat)
  case atStart =>
    refine ⟨0, by omega, rfl, by simp [cy_zero], (hG.alloc _).alloc _, (hH.alloc _).alloc _, ?_, ?_, ?_⟩
    · exact (Blk.newAt rfl 147 (cl fun _ => 0)).alloc _
    · rw [upto_zero]
      exact Blk.newAt (by simp) 147 (cl fun _ => 0)
    · exact below_alloc (below_alloc (Below.refl _ _) _) _
  case round =>
    obtain ⟨k, hk, rfl, rfl, hA, hB, hC, hD, hb⟩ := hrel
    have hc1 := cy_le M N k
    by_cases hlt : k < 6
    · have cA := hA.at_ hlt
      have cB := hB.at_ hlt
      have cD := hD.at_ hlt
      have fD := hD.frozen k
      have hx := lb_le M k
      have hy := lb_le N k
      go_wp2
      go_quiet (fail)
      go_wp2
      go_roundw
      case rel =>
        refine ⟨k + 1, by omega, by go_num, ?_, ?_, ?_, ?_, ?_, ?_⟩
        · rw [cy_succ]
          exact int_eq (by omega)
        · exact (hA.drewN nq).far (by simp <;> omega) _
        · exact (hB.drewN nq).far (by simp <;> omega) _
        · exact (hC.drewN nq).far (by simp <;> omega) _
        · have := upto_step (hD.drewN nq) hlt (lb_sum M N k)
          have e : (((lb M k : Nat) : Int) + (lb N k : Nat) + (cy M N k : Nat)) % 4294967296 = (((cy M N k + (lb M k + lb N k)) % 4294967296 : Nat) : Int) := by omega
          rw [e]
          exact this
        · exact below_set (below_drewN hb nq) (by simp) _
      case measure => simp [intOf] <;> omega
    · obtain rfl : k = 6 := by omega
      clear hlt hk
      rw [upto_six] at hD
      obtain ⟨c0, c1, c2, c3, c4, c5⟩ := hD.six
      obtain ⟨f0, f1, f2, f3, f4, f5, f6⟩ := hC.froz
      obtain ⟨d0, d1, d2, d3, d4, d5⟩ := hC.six
      go_wp2
      refine bodyPost_ret (v := .tuple #[szv (M + N), .bool (decide (cy M N 6 = 0))]) ?_ rfl ⟨rfl, below_put6 hb (by omega) _ _ _ _ _ _⟩
      rw [res_row_tmp Try.results116 rfl (hC.put6 rfl _ _ _ _ _ _) Try.underlying147 rfl sz147]
      by_cases hz : cy M N 6 = 0 <;> simp [szv, cl, hz]
end Go.Proofs.Ytjgikfejfglllaa
