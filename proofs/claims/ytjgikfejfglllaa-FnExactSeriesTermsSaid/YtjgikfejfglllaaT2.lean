/- The size divided by a small number. -/
import Derived.Test.YtjgikfejfglllaaT1
import Derived.Test.YtjgikfejfglllaaW1
import Derived.Test.YtjgikfejfglllaaRow
import Derived.Laws.BitsAllLaws
set_option linter.unusedVariables false
set_option linter.unusedSimpArgs false
namespace Go.Proofs.Ytjgikfejfglllaa
open Go.RowKit


theorem join32 (r l : Nat) (hr : r < 4294967296) (hl : l < 4294967296) : bits .or .u64 ((r : Int) * 4294967296) (l : Int) = ((r * 4294967296 + l : Nat) : Int) := by
  have e2 : (r : Int) * 4294967296 = ((r * 4294967296 : Nat) : Int) := by simp
  rw [e2, u64_or_nat _ _ (by omega) (by omega), nat_join 32 _ _ (by omega) (by omega)]

set_option maxHeartbeats 1000000 in
theorem bySmall_any (M d : Nat) (hM : M < pw 6) (hd : 0 < d) (hd2 : d < 4294967296) (w : World) :
    Calls Try.prog 109 #[szv M, .int .u32 d] w fun e w' => e = .returned (.tuple #[szv (M / d), .int .u32 (M % d : Nat)]) ∧ Below w.heap.size w w' := by
  unfold szv
  go_enter Try.func109, Try.ntmps109
  go_wp2
  go_loopw [6, 7] (fun r i wr => ∃ k : Nat, k ≤ 6 ∧ i = .int .i64 ((k : Int) - 1) ∧ r = .int .u64 (rst M d k) ∧ Blk wr w.heap.size 136 (cl (upto k (lb M) (lb (M / d)))) ∧ Blk wr (w.heap.size + 1) 136 (cl fun _ => 0) ∧ Below w.heap.size w wr)
    (fun _ i _ => (intOf i + 1).toNat)
  case atStart =>
    refine ⟨6, by omega, rfl, ?_, ?_, ?_, ?_⟩
    · have : rst M d 6 = 0 := by
        unfold rst
        rw [Nat.div_eq_of_lt hM, Nat.zero_mod]
      rw [this]
      rfl
    · rw [upto_six]
      exact (Blk.newAt rfl 136 (cl (lb M))).alloc _
    · exact Blk.newAt (by simp) 136 (cl fun _ => 0)
    · exact below_alloc (below_alloc (Below.refl _ _) _) _
  case round =>
    obtain ⟨k, hk, rfl, rfl, hA, hR, hb⟩ := hrel
    by_cases h0 : 0 < k
    · obtain ⟨K, rfl⟩ : ∃ K, k = K + 1 := ⟨k - 1, by omega⟩
      rw [show (((K + 1 : Nat) : Int) - 1) = (K : Int) by omega]
      have hK : K < 6 := by omega
      have cA := hA.at_ hK
      have fA := hA.frozen K
      rw [show upto (K + 1) (lb M) (lb (M / d)) K = lb M K by simp [upto]] at cA
      have hr := rst_lt M d (K + 1) hd
      have hl := lb_lt M K
      have hj := join32 _ _ (show rst M d (K + 1) < 4294967296 by omega) hl
      have hq := quo_limb M d K hd hd2
      have hm := rst_step M d K hd
      obtain ⟨V, hV⟩ : ∃ V, V = rst M d (K + 1) * 4294967296 + lb M K := ⟨_, rfl⟩
      rw [← hV] at hj hq hm
      have hQl := lb_lt (M / d) K
      have e1 : ((V : Nat) : Int).tmod (d : Int) = ((rst M d K : Nat) : Int) := by rw [← hm]; rfl
      have e2 : ((V : Nat) : Int).tdiv (d : Int) = ((lb (M / d) K : Nat) : Int) := by rw [← hq]; rfl
      have e3 : IntKind.u64.wrap ((lb (M / d) K : Nat) : Int) % 4294967296 = ((lb (M / d) K : Nat) : Int) := by
        have e : ∀ x : Int, IntKind.u64.wrap x = x % 18446744073709551616 := fun x => by simp [IntKind.wrap, IntKind.bits, IntKind.signed]
        rw [e]
        omega
      have HQ := Lib.hid hq
      clear hV hq hm
      have hdn : ¬ d = 0 := by omega
      go_wp2
      try go_roundw
      case rel =>
        refine ⟨K, by omega, rfl, rfl, ?_, hR.far (by simp <;> omega) _, below_set hb (by simp) _⟩
        refine hA.step hK (by simp [upto]) fun j hj hne => ?_
        by_cases g : j < K
        · simp [upto, g, show j < K + 1 by omega]
        · simp [upto, g, show ¬ j < K + 1 by omega]
      case measure => simp [intOf] <;> omega
    · obtain rfl : k = 0 := by omega
      rw [upto_zero] at hA
      obtain ⟨c0, c1, c2, c3, c4, c5⟩ := hA.six
      obtain ⟨f0, f1, f2, f3, f4, f5, f6⟩ := hR.froz
      obtain ⟨d0, d1, d2, d3, d4, d5⟩ := hR.six
      have er : rst M d 0 = M % d := by simp [rst, pw_zero]
      have hml := Nat.mod_lt M hd
      rw [er]
      have e3 : ((M % d : Nat) : Int) % 4294967296 = ((M % d : Nat) : Int) := by omega
      obtain ⟨s, hs⟩ : ∃ s, s = M % d := ⟨_, rfl⟩
      rw [← hs] at e3 hml ⊢
      have HSM := Lib.hid hs
      clear hs er
      go_wp2
      refine bodyPost_ret (v := .tuple #[szv (M / d), .int .u32 s]) ?_ rfl ⟨by rw [HSM.out]; rfl, below_put6 hb (by omega) _ _ _ _ _ _⟩
      rw [res_row_tmp Try.results109 rfl (hR.put6 rfl _ _ _ _ _ _) Try.underlying136 rfl sz136]
      simp [szv, cl, e3]
end Go.Proofs.Ytjgikfejfglllaa
