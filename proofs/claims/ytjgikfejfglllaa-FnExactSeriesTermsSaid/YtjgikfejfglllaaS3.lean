/- The reference's comparisons and differences of sizes, behind pointers. -/
import Derived.Test.YtjgikfejfglllaaS2
set_option linter.unusedVariables false
set_option linter.unusedSimpArgs false
namespace Go.Proofs.Ytjgikfejfglllaa
open Go.RowKit

set_option maxHeartbeats 400000 in
theorem refCmp_any (g h : Nat) (M N : Nat) (hM : M < pw 6) (hN : N < pw 6) (w : World) (hG : Blk w g 147 (cl (lb M))) (hH : Blk w h 147 (cl (lb N))) :
    Calls Try.prog 117 #[.pointer (some ⟨g, 0, none⟩), .pointer (some ⟨h, 0, none⟩)] w fun e w' => e = .returned (.int .i64 (cmp M N)) ∧ Drw w w' := by
  go_enter Try.func117, Try.ntmps117
  go_wp2
  go_loopw [5] (fun i wr => ∃ k : Nat, k ≤ 6 ∧ i = .int .i64 ((k : Int) - 1) ∧ (∀ j, k ≤ j → j < 6 → lb M j = lb N j) ∧ Blk wr g 147 (cl (lb M)) ∧ Blk wr h 147 (cl (lb N)) ∧ Drw w wr)
    (fun i _ => (intOf i + 1).toNat)
  case atStart =>
    exact ⟨6, by omega, rfl, fun j h1 h2 => by omega, hG, hH, Drw.refl w⟩
  case round =>
    obtain ⟨k, hk, rfl, heq, hA, hB, hb⟩ := hrel
    have HQ := Lib.hid heq
    clear heq
    by_cases h0 : k = 0
    · subst h0
      go_wp2
      go_ret
      have e := HQ.out
      obtain rfl := eq_of_lb hM hN fun j hj => e j (Nat.zero_le _) hj
      exact ⟨by rw [cmp_self]; rfl, hb⟩
    · obtain ⟨m, rfl⟩ : ∃ m, k = m + 1 := ⟨k - 1, by omega⟩
      have hm : m < 6 := by omega
      have cA := hA.at_ hm
      have cB := hB.at_ hm
      have e1 : ((m + 1 : Nat) : Int) - 1 = (m : Int) := by omega
      rw [e1]
      clear e1
      rcases Nat.lt_trichotomy (lb M m) (lb N m) with c | c | c
      · have HR : Hid (cmp M N = -1) := by
          have e := HQ.out
          exact Lib.hid (cmp_lt (lt_of_lb hM hN hm (fun j h1 h2 => e j h1 h2) c))
        have b2 : decide (lb M m < lb N m) = true := decide_eq_true c
        clear HQ c
        go_wp2
        go_quiet (fail)
        go_wp2
        go_ret
        exact ⟨by rw [HR.out]; rfl, hb.step _⟩
      · have HR : Hid (∀ j, m ≤ j → j < 6 → lb M j = lb N j) := by
          have e := HQ.out
          refine Lib.hid fun j h1 h2 => ?_
          by_cases g : j = m
          · rw [g, c]
          · exact e j (by omega) h2
        have b2 : decide (lb M m < lb N m) = false := decide_eq_false (by omega)
        have b3 : decide (lb N m < lb M m) = false := decide_eq_false (by omega)
        clear HQ c
        go_wp2
        go_quiet (fail)
        go_wp2
        go_quiet (fail)
        go_wp2
        go_roundw
        case rel => exact ⟨m, by omega, rfl, HR.out, hA.drewN _, hB.drewN _, hb.step _⟩
        case measure => simp [intOf] <;> omega
      · have HR : Hid (cmp M N = 1) := by
          have e := HQ.out
          exact Lib.hid (cmp_gt (lt_of_lb hN hM hm (fun j h1 h2 => (e j h1 h2).symm) c))
        have b2 : decide (lb M m < lb N m) = false := decide_eq_false (by omega)
        have b3 : decide (lb N m < lb M m) = true := decide_eq_true c
        clear HQ c
        go_wp2
        go_quiet (fail)
        go_wp2
        go_quiet (fail)
        go_wp2
        go_ret
        exact ⟨by rw [HR.out]; rfl, (hb.step _).step _⟩
end Go.Proofs.Ytjgikfejfglllaa
