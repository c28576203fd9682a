/- The wide integer of a number. -/
import Derived.Test.YtjgikfejfglllaaW2
import Derived.Test.YtjgikfejfglllaaS1
import Derived.Test.YtjgikfejfglllaaRow
set_option linter.unusedVariables false
set_option linter.unusedSimpArgs false
namespace Go.Proofs.Ytjgikfejfglllaa
open Go.RowKit

set_option maxHeartbeats 400000 in
theorem wideOf_pos (n : Int) (h0 : 0 ≤ n) (h1 : n ≤ 9223372036854775807) (w : World) :
    Calls Try.prog 112 #[.int .i64 n] w fun e w' => e = .returned (wdv false n.natAbs) ∧ Below w.heap.size w w' := by
  have hM : n.natAbs < 18446744073709551616 := by omega
  have hz : (false && decide (n.natAbs ≠ 0)) = false := by simp
  have hd : decide (n < 0) = false := decide_eq_false (by omega)
  go_enter Try.func112, Try.ntmps112
  go_wp2_with fail
  refine (calls_args (args' := #[.bool false, szv n.natAbs]) ?_ (wide_any _ _ (word_pw hM) _)).mono ?_
  · exact congrArg (fun v => #[Value.bool false, v]) (szv_word hM (by omega) (by omega))
  · rintro e w1 ⟨rfl, hb⟩
    rw [hz]
    have hR : Blk w1 w.heap.size 32 (wcl false fun _ => 0) := (Blk.newAt rfl 32 (wcl false fun _ => 0)).later hb
    go_wp2_with (refine wpList_store_row rfl 32 _ _ rfl w.heap.size _ rfl rfl 32 _ hR sz32 rfl (wcl_all _ _) ?_)
    refine bodyPost_ret (v := wdv false n.natAbs) (res_row Try.results112 rfl (hR.row _) Try.underlying32 rfl sz32) rfl ⟨rfl, below_row (below_then (below_alloc (Below.refl _ _) _) hb) (Nat.le_refl _) _⟩
set_option maxHeartbeats 400000 in
theorem wideOf_neg (n : Int) (h0 : n < 0) (h1 : -9223372036854775808 ≤ n) (w : World) :
    Calls Try.prog 112 #[.int .i64 n] w fun e w' => e = .returned (wdv true n.natAbs) ∧ Below w.heap.size w w' := by
  have hM : n.natAbs < 18446744073709551616 := by omega
  have hz : (true && decide (n.natAbs ≠ 0)) = true := by simp; omega
  have hu : IntKind.u64.wrap (-(IntKind.u64.wrap n)) = (n.natAbs : Int) := by
    have e : ∀ x : Int, IntKind.u64.wrap x = x % 18446744073709551616 := fun x => by simp [IntKind.wrap, IntKind.bits, IntKind.signed]
    rw [e, e]
    omega
  have hd : decide (n < 0) = true := decide_eq_true h0
  go_enter Try.func112, Try.ntmps112
  go_wp2_with fail
  refine (calls_args (args' := #[.bool true, szv n.natAbs]) ?_ (wide_any _ _ (word_pw hM) _)).mono ?_
  · exact congrArg (fun v => #[Value.bool true, v]) (szv_word hM (by omega) (by omega))
  · rintro e w1 ⟨rfl, hb⟩
    rw [hz]
    have hR : Blk w1 w.heap.size 32 (wcl false fun _ => 0) := (Blk.newAt rfl 32 (wcl false fun _ => 0)).later hb
    go_wp2_with (refine wpList_store_row rfl 32 _ _ rfl w.heap.size _ rfl rfl 32 _ hR sz32 rfl (wcl_all _ _) ?_)
    refine bodyPost_ret (v := wdv true n.natAbs) (res_row Try.results112 rfl (hR.row _) Try.underlying32 rfl sz32) rfl ⟨rfl, below_row (below_then (below_alloc (Below.refl _ _) _) hb) (Nat.le_refl _) _⟩
theorem wideOf_any (n : Int) (h0 : -9223372036854775808 ≤ n) (h1 : n ≤ 9223372036854775807) (w : World) :
    Calls Try.prog 112 #[.int .i64 n] w fun e w' => e = .returned (wdv (decide (n < 0)) n.natAbs) ∧ Below w.heap.size w w' := by
  by_cases h : n < 0
  · rw [decide_eq_true h]
    exact wideOf_neg n h h0 w
  · rw [decide_eq_false h]
    exact wideOf_pos n (by omega) h1 w
end Go.Proofs.Ytjgikfejfglllaa
