/- What is asked of a root and an index. -/
import Derived.Test.YtjgikfejfglllaaR5
set_option linter.unusedVariables false
set_option linter.unusedSimpArgs false
namespace Go.Proofs.Ytjgikfejfglllaa
open Go.RowKit


/-- The code of a root and an index. -/
def idxT (n k most : Int) : Int := if wi n 0 1000000 && wi k 0 most then (if (rootT n).2.2 = 0 ∧ (rootT n).2.1 = [] ∧ 0 < k then 6 else (rootT n).2.2) else 2
set_option maxHeartbeats 1000000 in
theorem rootBegin_any (n k most : Int) (h0 : -9223372036854775808 ≤ n) (h1 : n ≤ 9223372036854775807) (w : World) : Calls Try.prog 63 #[.int .i64 n, .int .i64 k, .int .i64 most] w fun e w' => ∃ x v, e = .returned (.tuple #[.int .i64 x, v, .int .i64 (idxT n k most)]) ∧ (idxT n k most = 0 → x = (rootT n).1 ∧ Rd w' v (rootT n).2.1) ∧ Below w.heap.size w w' := by
  by_cases c1 : wi n 0 1000000 = true
  · by_cases c2 : wi k 0 most = true
    · have hd : idxT n k most = if (rootT n).2.2 = 0 ∧ (rootT n).2.1 = [] ∧ 0 < k then 6 else (rootT n).2.2 := by simp [idxT, c1, c2]
      obtain ⟨D, hD⟩ : ∃ D, D = idxT n k most := ⟨_, rfl⟩
      have hr := rootTerms_any n h0 h1 w
      rw [← hD] at hd ⊢
      obtain ⟨f, l, cd, hX⟩ : ∃ f l cd, rootT n = (f, l, cd) := ⟨_, _, _, rfl⟩
      rw [hX] at hd hr ⊢
      have HD := Lib.hid hd
      clear hX hd hD
      by_cases z : cd = 0
      · have b1 : (cd == 0) = true := beq_iff_eq.2 z
        by_cases z2 : l = []
        · have b2 : (((l.length : Nat) : Int) == 0) = true := beq_iff_eq.2 (by rw [z2]; rfl)
          by_cases z3 : 0 < k
          · have e6 : D = 6 := by rw [HD.out, if_pos ⟨z, z2, z3⟩]
            rw [e6]
            clear e6 HD z z2
            go_enter Try.func63, Try.ntmps63
            go_wp2_with (first | (go_at_call 64; refine (within_any _ _ _ _).mono ?_; rintro e w' ⟨rfl, rfl⟩) | (go_at_call 22; refine hr.mono ?_; rintro e w1 ⟨v, rfl, hv, hb⟩; obtain ⟨A, c, hvv, hc, hrr⟩ := hv; rw [hvv]; clear hvv))
            go_ret3
            exact ⟨_, _, rfl, fun h => absurd h (by decide), hb⟩
          · have e0 : D = cd := by rw [HD.out, if_neg fun h => z3 h.2.2]
            rw [e0]
            clear e0 HD z2
            have HZ := Lib.hid z
            clear z
            go_enter Try.func63, Try.ntmps63
            go_wp2_with (first | (go_at_call 64; refine (within_any _ _ _ _).mono ?_; rintro e w' ⟨rfl, rfl⟩) | (go_at_call 22; refine hr.mono ?_; rintro e w1 ⟨v, rfl, hv, hb⟩; have hv0 := hv; obtain ⟨A, c, hvv, hc, hrr⟩ := hv; rw [hvv] at hv0 ⊢; clear hvv))
            go_ret3
            exact ⟨_, _, rfl, fun _ => ⟨rfl, hv0⟩, hb⟩
        · have b2 : (((l.length : Nat) : Int) == 0) = false := beq_eq_false_iff_ne.2 (fun h => z2 (List.eq_nil_of_length_eq_zero (by omega)))
          have e0 : D = cd := by rw [HD.out, if_neg fun h => z2 h.2.1]
          rw [e0]
          clear e0 HD z2
          have HZ := Lib.hid z
          clear z
          go_enter Try.func63, Try.ntmps63
          go_wp2_with (first | (go_at_call 64; refine (within_any _ _ _ _).mono ?_; rintro e w' ⟨rfl, rfl⟩) | (go_at_call 22; refine hr.mono ?_; rintro e w1 ⟨v, rfl, hv, hb⟩; have hv0 := hv; obtain ⟨A, c, hvv, hc, hrr⟩ := hv; rw [hvv] at hv0 ⊢; clear hvv))
          go_ret3
          exact ⟨_, _, rfl, fun _ => ⟨rfl, hv0⟩, hb⟩
      · have b1 : (cd == 0) = false := beq_eq_false_iff_ne.2 z
        have e0 : D = cd := by rw [HD.out, if_neg fun h => z h.1]
        rw [e0]
        clear e0 HD z
        go_enter Try.func63, Try.ntmps63
        go_wp2_with (first | (go_at_call 64; refine (within_any _ _ _ _).mono ?_; rintro e w' ⟨rfl, rfl⟩) | (go_at_call 22; refine hr.mono ?_; rintro e w1 ⟨v, rfl, hv, hb⟩; have hv0 := hv; obtain ⟨A, c, hvv, hc, hrr⟩ := hv; rw [hvv] at hv0 ⊢; clear hvv))
        go_ret3
        exact ⟨_, _, rfl, fun _ => ⟨rfl, hv0⟩, hb⟩
    · have hd : idxT n k most = 2 := by simp [idxT, c2]
      rw [hd]
      clear hd
      have c2 : wi k 0 most = false := by simpa using c2
      go_enter Try.func63, Try.ntmps63
      go_wp2_with (go_at_call 64; refine (within_any _ _ _ _).mono ?_; rintro e w' ⟨rfl, rfl⟩)
      go_ret3
      exact ⟨_, _, rfl, fun h => absurd h (by decide), Below.refl _ _⟩
  · have c1 : wi n 0 1000000 = false := by simpa using c1
    have hd : idxT n k most = 2 := by simp [idxT, c1]
    rw [hd]
    clear hd
    go_enter Try.func63, Try.ntmps63
    go_wp2_with (go_at_call 64; refine (within_any _ _ _ _).mono ?_; rintro e w' ⟨rfl, rfl⟩)
    go_ret3
    exact ⟨_, _, rfl, fun h => absurd h (by decide), Below.refl _ _⟩
set_option maxHeartbeats 1000000 in
theorem refIndex_any (n k most : Int) (h0 : -9223372036854775808 ≤ n) (h1 : n ≤ 9223372036854775807) (w : World) : Calls Try.prog 62 #[.int .i64 n, .int .i64 k, .int .i64 most] w fun e w' => ∃ x v, e = .returned (.tuple #[.int .i64 x, v, .int .i64 (idxT n k most)]) ∧ (idxT n k most = 0 → x = (rootT n).1 ∧ Rd w' v (rootT n).2.1) ∧ Below w.heap.size w w' := by
  by_cases c1 : wi n 0 1000000 = true
  · by_cases c2 : wi k 0 most = true
    · have hd : idxT n k most = if (rootT n).2.2 = 0 ∧ (rootT n).2.1 = [] ∧ 0 < k then 6 else (rootT n).2.2 := by simp [idxT, c1, c2]
      obtain ⟨D, hD⟩ : ∃ D, D = idxT n k most := ⟨_, rfl⟩
      have hr := refPeriod_any n h0 h1 w
      rw [← hD] at hd ⊢
      obtain ⟨f, l, cd, hX⟩ : ∃ f l cd, rootT n = (f, l, cd) := ⟨_, _, _, rfl⟩
      rw [hX] at hd hr ⊢
      have HD := Lib.hid hd
      clear hX hd hD
      by_cases z : cd = 0
      · have b1 : (cd == 0) = true := beq_iff_eq.2 z
        by_cases z2 : l = []
        · have b2 : (((l.length : Nat) : Int) == 0) = true := beq_iff_eq.2 (by rw [z2]; rfl)
          by_cases z3 : 0 < k
          · have e6 : D = 6 := by rw [HD.out, if_pos ⟨z, z2, z3⟩]
            rw [e6]
            clear e6 HD z z2
            go_enter Try.func62, Try.ntmps62
            go_wp2_with (first | (go_at_call 110; refine (in_any _ _ _ _).mono ?_; rintro e w' ⟨rfl, rfl⟩) | (go_at_call 58; refine hr.mono ?_; rintro e w1 ⟨v, rfl, hv, hb⟩; obtain ⟨A, c, hvv, hc, hrr⟩ := hv; rw [hvv]; clear hvv))
            go_ret3
            exact ⟨_, _, rfl, fun h => absurd h (by decide), hb⟩
          · have e0 : D = cd := by rw [HD.out, if_neg fun h => z3 h.2.2]
            rw [e0]
            clear e0 HD z2
            have HZ := Lib.hid z
            clear z
            go_enter Try.func62, Try.ntmps62
            go_wp2_with (first | (go_at_call 110; refine (in_any _ _ _ _).mono ?_; rintro e w' ⟨rfl, rfl⟩) | (go_at_call 58; refine hr.mono ?_; rintro e w1 ⟨v, rfl, hv, hb⟩; have hv0 := hv; obtain ⟨A, c, hvv, hc, hrr⟩ := hv; rw [hvv] at hv0 ⊢; clear hvv))
            go_ret3
            exact ⟨_, _, rfl, fun _ => ⟨rfl, hv0⟩, hb⟩
        · have b2 : (((l.length : Nat) : Int) == 0) = false := beq_eq_false_iff_ne.2 (fun h => z2 (List.eq_nil_of_length_eq_zero (by omega)))
          have e0 : D = cd := by rw [HD.out, if_neg fun h => z2 h.2.1]
          rw [e0]
          clear e0 HD z2
          have HZ := Lib.hid z
          clear z
          go_enter Try.func62, Try.ntmps62
          go_wp2_with (first | (go_at_call 110; refine (in_any _ _ _ _).mono ?_; rintro e w' ⟨rfl, rfl⟩) | (go_at_call 58; refine hr.mono ?_; rintro e w1 ⟨v, rfl, hv, hb⟩; have hv0 := hv; obtain ⟨A, c, hvv, hc, hrr⟩ := hv; rw [hvv] at hv0 ⊢; clear hvv))
          go_ret3
          exact ⟨_, _, rfl, fun _ => ⟨rfl, hv0⟩, hb⟩
      · have b1 : (cd == 0) = false := beq_eq_false_iff_ne.2 z
        have e0 : D = cd := by rw [HD.out, if_neg fun h => z h.1]
        rw [e0]
        clear e0 HD z
        go_enter Try.func62, Try.ntmps62
        go_wp2_with (first | (go_at_call 110; refine (in_any _ _ _ _).mono ?_; rintro e w' ⟨rfl, rfl⟩) | (go_at_call 58; refine hr.mono ?_; rintro e w1 ⟨v, rfl, hv, hb⟩; have hv0 := hv; obtain ⟨A, c, hvv, hc, hrr⟩ := hv; rw [hvv] at hv0 ⊢; clear hvv))
        go_ret3
        exact ⟨_, _, rfl, fun _ => ⟨rfl, hv0⟩, hb⟩
    · have hd : idxT n k most = 2 := by simp [idxT, c2]
      rw [hd]
      clear hd
      have c2 : wi k 0 most = false := by simpa using c2
      go_enter Try.func62, Try.ntmps62
      go_wp2_with (go_at_call 110; refine (in_any _ _ _ _).mono ?_; rintro e w' ⟨rfl, rfl⟩)
      go_ret3
      exact ⟨_, _, rfl, fun h => absurd h (by decide), below_alloc (Below.refl _ _) _⟩
  · have c1 : wi n 0 1000000 = false := by simpa using c1
    have hd : idxT n k most = 2 := by simp [idxT, c1]
    rw [hd]
    clear hd
    go_enter Try.func62, Try.ntmps62
    go_wp2_with (go_at_call 110; refine (in_any _ _ _ _).mono ?_; rintro e w' ⟨rfl, rfl⟩)
    go_ret3
    exact ⟨_, _, rfl, fun h => absurd h (by decide), below_alloc (Below.refl _ _) _⟩
end Go.Proofs.Ytjgikfejfglllaa
