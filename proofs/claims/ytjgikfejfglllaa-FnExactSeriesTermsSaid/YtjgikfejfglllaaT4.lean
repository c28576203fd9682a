/- The reference checks a series. -/
import Derived.Test.YtjgikfejfglllaaT3
import Derived.Deep.RegionWith
import Derived.BigRegion
set_option linter.unusedVariables false
set_option linter.unusedSimpArgs false
namespace Go.Proofs.Ytjgikfejfglllaa
open Go.RowKit


theorem places_imp (n : Int) (w : World) : Calls Try.prog 56 #[.int .i64 n] w fun e w' => e = .returned (.bool (wi n 0 64)) ∧ w = w' := by
  go_enter Try.func56, Try.ntmps56
  go_wp2_with (go_at_call 64; refine (within_any _ _ _ _).mono ?_; rintro e w' ⟨rfl, rfl⟩)
  go_ret
  exact ⟨rfl, rfl⟩
theorem places_ref (n : Int) (w : World) : Calls Try.prog 102 #[.int .i64 n] w fun e w' => e = .returned (.bool (wi n 0 64)) ∧ w = w' := by
  go_enter Try.func102, Try.ntmps102
  go_wp2_with (go_at_call 110; refine (in_any _ _ _ _).mono ?_; rintro e w' ⟨rfl, rfl⟩)
  go_ret
  exact ⟨rfl, rfl⟩
set_option maxHeartbeats 2000000 in
theorem series_ref (g T : Nat) (a b c d : Int) (t : Bool) (w : World) (hG : Blk w g T (serC a b c d t)) : Calls Try.prog 101 #[.pointer (some ⟨g, 0, none⟩)] w fun e w' => e = .returned (.bool (vsr a b c d)) ∧ Drw w w' := by
  have k0 : w.cell? ⟨g, 0, none⟩ = some (.int .i64 a) := hG.cell 0
  have k1 : w.cell? ⟨g, 1, none⟩ = some (.int .i64 b) := hG.cell 1
  have k2 : w.cell? ⟨g, 2, none⟩ = some (.int .i64 c) := hG.cell 2
  have k3 : w.cell? ⟨g, 3, none⟩ = some (.int .i64 d) := hG.cell 3
  clear hG
  unfold vsr
  by_cases h1 : wi b 2 1000 = true
  · have hb : 2 ≤ b := by simp [wi] at h1; omega
    have hb2 : b ≤ 1000 := by simp [wi] at h1; omega
    have e1 : b.tdiv 2 = b / 2 := Int.tdiv_eq_ediv_of_nonneg (by omega)
    by_cases h2 : wi a 1 (b / 2) = true
    · by_cases h3 : wi c 1 1000 = true
      · rw [h1, h2, h3]
        obtain ⟨q, hq⟩ : ∃ q, q = wi d 0 1000 := ⟨_, rfl⟩
        have h4 := hq.symm
        rw [← hq]
        have HQ := Lib.hid hq
        clear hq
        have q1 : ∀ n, Calls Try.prog 110 #[.int .i64 b, .int .i64 2, .int .i64 1000] (w.drewN n) fun e w'' => e = .returned (.bool true) ∧ ∃ m, w'' = w.drewN m := fun n => by
          have hq := in_any b 2 1000 (w.drewN n)
          rw [h1] at hq
          refine hq.mono ?_
          rintro e w1 ⟨rfl, rfl⟩
          exact ⟨rfl, _, rfl⟩
        have q2 : ∀ n, Calls Try.prog 110 #[.int .i64 a, .int .i64 1, .int .i64 (b / 2)] (w.drewN n) fun e w'' => e = .returned (.bool true) ∧ ∃ m, w'' = w.drewN m := fun n => by
          have hq := in_any a 1 (b / 2) (w.drewN n)
          rw [h2] at hq
          refine hq.mono ?_
          rintro e w1 ⟨rfl, rfl⟩
          exact ⟨rfl, _, rfl⟩
        have q3 : ∀ n, Calls Try.prog 110 #[.int .i64 c, .int .i64 1, .int .i64 1000] (w.drewN n) fun e w'' => e = .returned (.bool true) ∧ ∃ m, w'' = w.drewN m := fun n => by
          have hq := in_any c 1 1000 (w.drewN n)
          rw [h3] at hq
          refine hq.mono ?_
          rintro e w1 ⟨rfl, rfl⟩
          exact ⟨rfl, _, rfl⟩
        have q4 : ∀ n, Calls Try.prog 110 #[.int .i64 d, .int .i64 0, .int .i64 1000] (w.drewN n) fun e w'' => e = .returned (.bool q) ∧ ∃ m, w'' = w.drewN m := fun n => by
          have hq := in_any d 0 1000 (w.drewN n)
          rw [h4] at hq
          refine hq.mono ?_
          rintro e w1 ⟨rfl, rfl⟩
          exact ⟨rfl, _, rfl⟩
        go_enter Try.func101, Try.ntmps101
        go_wp2_with fail
        go_quiet (first | (go_at_call_of 110 (Value.int IntKind.i64 b); exact (q1 _)) | (go_at_call_of 110 (Value.int IntKind.i64 a); exact (q2 _)) | (go_at_call_of 110 (Value.int IntKind.i64 c); exact (q3 _)) | (go_at_call_of 110 (Value.int IntKind.i64 d); exact (q4 _)))
        go_wp2
        go_ret
        exact ⟨rfl, _, rfl⟩
      · have h3 : wi c 1 1000 = false := by simpa using h3
        rw [h1, h2, h3]
        have q1 : ∀ n, Calls Try.prog 110 #[.int .i64 b, .int .i64 2, .int .i64 1000] (w.drewN n) fun e w'' => e = .returned (.bool true) ∧ ∃ m, w'' = w.drewN m := fun n => by
          have hq := in_any b 2 1000 (w.drewN n)
          rw [h1] at hq
          refine hq.mono ?_
          rintro e w1 ⟨rfl, rfl⟩
          exact ⟨rfl, _, rfl⟩
        have q2 : ∀ n, Calls Try.prog 110 #[.int .i64 a, .int .i64 1, .int .i64 (b / 2)] (w.drewN n) fun e w'' => e = .returned (.bool true) ∧ ∃ m, w'' = w.drewN m := fun n => by
          have hq := in_any a 1 (b / 2) (w.drewN n)
          rw [h2] at hq
          refine hq.mono ?_
          rintro e w1 ⟨rfl, rfl⟩
          exact ⟨rfl, _, rfl⟩
        have q3 : ∀ n, Calls Try.prog 110 #[.int .i64 c, .int .i64 1, .int .i64 1000] (w.drewN n) fun e w'' => e = .returned (.bool false) ∧ ∃ m, w'' = w.drewN m := fun n => by
          have hq := in_any c 1 1000 (w.drewN n)
          rw [h3] at hq
          refine hq.mono ?_
          rintro e w1 ⟨rfl, rfl⟩
          exact ⟨rfl, _, rfl⟩
        go_enter Try.func101, Try.ntmps101
        go_wp2_with fail
        go_quiet (first | (go_at_call_of 110 (Value.int IntKind.i64 b); exact (q1 _)) | (go_at_call_of 110 (Value.int IntKind.i64 a); exact (q2 _)) | (go_at_call_of 110 (Value.int IntKind.i64 c); exact (q3 _)))
        go_wp2
        go_ret
        exact ⟨rfl, _, rfl⟩
    · have h2 : wi a 1 (b / 2) = false := by simpa using h2
      rw [h1, h2]
      have q1 : ∀ n, Calls Try.prog 110 #[.int .i64 b, .int .i64 2, .int .i64 1000] (w.drewN n) fun e w'' => e = .returned (.bool true) ∧ ∃ m, w'' = w.drewN m := fun n => by
        have hq := in_any b 2 1000 (w.drewN n)
        rw [h1] at hq
        refine hq.mono ?_
        rintro e w1 ⟨rfl, rfl⟩
        exact ⟨rfl, _, rfl⟩
      have q2 : ∀ n, Calls Try.prog 110 #[.int .i64 a, .int .i64 1, .int .i64 (b / 2)] (w.drewN n) fun e w'' => e = .returned (.bool false) ∧ ∃ m, w'' = w.drewN m := fun n => by
        have hq := in_any a 1 (b / 2) (w.drewN n)
        rw [h2] at hq
        refine hq.mono ?_
        rintro e w1 ⟨rfl, rfl⟩
        exact ⟨rfl, _, rfl⟩
      go_enter Try.func101, Try.ntmps101
      go_wp2_with fail
      go_quiet (first | (go_at_call_of 110 (Value.int IntKind.i64 b); exact (q1 _)) | (go_at_call_of 110 (Value.int IntKind.i64 a); exact (q2 _)))
      go_wp2
      go_ret
      exact ⟨rfl, _, rfl⟩
  · have h1 : wi b 2 1000 = false := by simpa using h1
    rw [h1]
    have q1 : ∀ n, Calls Try.prog 110 #[.int .i64 b, .int .i64 2, .int .i64 1000] (w.drewN n) fun e w'' => e = .returned (.bool false) ∧ ∃ m, w'' = w.drewN m := fun n => by
      have hq := in_any b 2 1000 (w.drewN n)
      rw [h1] at hq
      refine hq.mono ?_
      rintro e w1 ⟨rfl, rfl⟩
      exact ⟨rfl, _, rfl⟩
    go_enter Try.func101, Try.ntmps101
    go_wp2_with fail
    go_quiet (first | (go_at_call_of 110 (Value.int IntKind.i64 b); exact (q1 _)))
    go_wp2
    go_ret
    exact ⟨rfl, _, rfl⟩
end Go.Proofs.Ytjgikfejfglllaa
