/- Differences and comparisons of sizes. -/
import Derived.Test.YtjgikfejfglllaaW2
set_option linter.unusedVariables false
set_option linter.unusedSimpArgs false
namespace Go.Proofs.Ytjgikfejfglllaa
open Go.RowKit
set_option maxHeartbeats 400000 in
theorem minus_any (M N : Nat) (hle : N ≤ M) (w : World) :
    Calls Try.prog 145 #[szv M, szv N] w fun e w' => e = .returned (szv (M - N)) ∧ Below w.heap.size w w' := by
  unfold szv
  go_enter Try.func145, Try.ntmps145
  go_wp2
  go_loopw [5, 8] (fun c i wr => ∃ k : Nat, k ≤ 6 ∧ i = .int .i64 k ∧ c = .int .u64 (bw M N k) ∧ Blk wr w.heap.size 136 (cl (upto k (lb (M - N)) (lb M))) ∧ Blk wr (w.heap.size + 1) 136 (cl (lb N)) ∧ Blk wr (w.heap.size + 1 + 1) 136 (cl fun _ => 0) ∧ Below w.heap.size w wr)
    (fun _ i _ => 6 - (intOf i).toNat)
  case atStart =>
    refine ⟨0, by omega, rfl, by simp [bw_zero], ?_, ?_, ?_, ?_⟩
    · rw [upto_zero]
      exact ((Blk.new w 136 (cl (lb M))).alloc _).alloc _
    · exact (Blk.newAt (by simp) 136 (cl (lb N))).alloc _
    · exact Blk.newAt (by simp) 136 (cl fun _ => 0)
    · exact below_alloc (below_alloc (below_alloc (Below.refl _ _) _) _) _
  case round =>
    obtain ⟨k, hk, rfl, rfl, hA, hB, hC, hb⟩ := hrel
    have hc1 := bw_le M N k
    by_cases hlt : k < 6
    · have cA := hA.at_ hlt
      rw [upto_at] at cA
      have cB := hB.at_ hlt
      have fA := hA.frozen k
      have hx := lb_le M k
      have hy := lb_le N k
      go_wp2
      go_quiet (fail)
      go_wp2
      go_roundw
      case rel =>
        refine ⟨k + 1, by omega, by go_num, ?_, ?_, ?_, ?_, ?_⟩
        · rw [bw_succ, (u64_diff _ _ _ hx hy hc1).1]
        · have := upto_step (hA.drewN nq) hlt (lb_diff hle k)
          rw [(u64_diff _ _ _ hx hy hc1).2]
          exact this
        · exact (hB.drewN nq).far (by simp <;> omega) _
        · exact (hC.drewN nq).far (by simp <;> omega) _
        · exact below_set (below_drewN hb nq) (by simp) _
      case measure => simp [intOf] <;> omega
    · obtain rfl : k = 6 := by omega
      clear hlt hk
      rw [upto_six] at hA
      obtain ⟨c0, c1, c2, c3, c4, c5⟩ := hA.six
      obtain ⟨f0, f1, f2, f3, f4, f5, f6⟩ := hC.froz
      obtain ⟨d0, d1, d2, d3, d4, d5⟩ := hC.six
      go_wp2
      refine bodyPost_ret (v := szv (M - N)) ?_ rfl ⟨rfl, below_put6 hb (by omega) _ _ _ _ _ _⟩
      rw [res_row Try.results145 rfl (hC.put6 rfl _ _ _ _ _ _) Try.underlying136 rfl sz136]
      rfl

set_option maxHeartbeats 400000 in
theorem compare_any (M N : Nat) (hM : M < pw 6) (hN : N < pw 6) (w : World) :
    Calls Try.prog 144 #[szv M, szv N] w fun e w' => e = .returned (.int .i64 (cmp M N)) ∧ Below w.heap.size w w' := by
  unfold szv
  go_enter Try.func144, Try.ntmps144
  go_wp2
  go_loopw [5] (fun i wr => ∃ k : Nat, k ≤ 6 ∧ i = .int .i64 ((k : Int) - 1) ∧ (∀ j, k ≤ j → j < 6 → lb M j = lb N j) ∧ Blk wr w.heap.size 136 (cl (lb M)) ∧ Blk wr (w.heap.size + 1) 136 (cl (lb N)) ∧ Below w.heap.size w wr)
    (fun i _ => (intOf i + 1).toNat)
  case atStart =>
    refine ⟨6, by omega, rfl, fun j h1 h2 => by omega, ?_, ?_, ?_⟩
    · exact (Blk.new w 136 (cl (lb M))).alloc _
    · exact Blk.newAt (by simp) 136 (cl (lb N))
    · exact below_alloc (below_alloc (Below.refl _ _) _) _
  case round =>
    obtain ⟨k, hk, rfl, heq, hA, hB, hb⟩ := hrel
    have HQ := Lib.hid heq
    clear heq
    by_cases h0 : k = 0
    · subst h0
      go_wp2
      go_ret
      have e := HQ.out
      obtain rfl := eq_of_lb hM hN fun j hj => e j (Nat.zero_le _) hj
      exact ⟨by rw [cmp_self]; rfl, hb⟩
    · obtain ⟨m, rfl⟩ : ∃ m, k = m + 1 := ⟨k - 1, by omega⟩
      have hm : m < 6 := by omega
      have cA := hA.at_ hm
      have cB := hB.at_ hm
      have e1 : ((m + 1 : Nat) : Int) - 1 = (m : Int) := by omega
      rw [e1]
      clear e1
      rcases Nat.lt_trichotomy (lb M m) (lb N m) with c | c | c
      · have HR : Hid (cmp M N = -1) := by
          have e := HQ.out
          exact Lib.hid (cmp_lt (lt_of_lb hM hN hm (fun j h1 h2 => e j h1 h2) c))
        have b1 : (((lb M m : Nat) : Int) != ((lb N m : Nat) : Int)) = true := bne_iff_ne.2 (by omega)
        have b2 : decide (lb M m < lb N m) = true := decide_eq_true c
        clear HQ c
        go_wp2
        go_quiet (fail)
        go_wp2
        go_quiet (fail)
        go_wp2
        go_ret
        exact ⟨by rw [HR.out]; rfl, below_drewN (below_drewN hb _) _⟩
      · have HR : Hid (∀ j, m ≤ j → j < 6 → lb M j = lb N j) := by
          have e := HQ.out
          refine Lib.hid fun j h1 h2 => ?_
          by_cases g : j = m
          · rw [g, c]
          · exact e j (by omega) h2
        have b1 : (((lb M m : Nat) : Int) != ((lb N m : Nat) : Int)) = false := bne_eq_false_iff_eq.2 (by omega)
        clear HQ c
        go_wp2
        go_quiet (fail)
        go_wp2
        go_roundw
        case rel => exact ⟨m, by omega, rfl, HR.out, hA.drewN _, hB.drewN _, below_drewN hb _⟩
        case measure => simp [intOf] <;> omega
      · have HR : Hid (cmp M N = 1) := by
          have e := HQ.out
          exact Lib.hid (cmp_gt (lt_of_lb hN hM hm (fun j h1 h2 => (e j h1 h2).symm) c))
        have b1 : (((lb M m : Nat) : Int) != ((lb N m : Nat) : Int)) = true := bne_iff_ne.2 (by omega)
        have b2 : decide (lb M m < lb N m) = false := decide_eq_false (by omega)
        clear HQ c
        go_wp2
        go_quiet (fail)
        go_wp2
        go_quiet (fail)
        go_wp2
        go_ret
        exact ⟨by rw [HR.out]; rfl, below_drewN (below_drewN hb _) _⟩
end Go.Proofs.Ytjgikfejfglllaa
