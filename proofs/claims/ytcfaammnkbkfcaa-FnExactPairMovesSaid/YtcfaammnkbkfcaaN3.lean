/- The cells of the reference. -/
import Derived.Test.YtcfaammnkbkfcaaN2
set_option linter.unusedVariables false
set_option linter.unusedSimpArgs false
namespace Go.Proofs.Ytcfaammnkbkfcaa
open Go.RowKit


theorem size_any (a : Int) (h1 : -9000000000000000000 ≤ a) (h2 : a ≤ 9000000000000000000) (w : World) : Calls Try.prog 131 #[.int .i64 a] w fun e w' => e = .returned (.int .i64 a.natAbs) ∧ w = w' := by
  by_cases h : a < 0
  · have e : (a.natAbs : Int) = -a := by omega
    rw [e]
    clear e
    go_enter Try.func131, Try.ntmps131
    go_wp2
    go_ret
    exact ⟨rfl, rfl⟩
  · have e : (a.natAbs : Int) = a := by omega
    rw [e]
    clear e
    go_enter Try.func131, Try.ntmps131
    go_wp2
    go_ret
    exact ⟨rfl, rfl⟩
theorem size_nat (a : Int) (A : Nat) (hA : A = a.natAbs) (h1 : -9000000000000000000 ≤ a) (h2 : a ≤ 9000000000000000000) (w : World) : Calls Try.prog 131 #[.int .i64 a] w fun e w' => e = .returned (.int .i64 A) ∧ w = w' := by
  rw [hA]
  exact size_any a h1 h2 w
theorem wi_abs (n : Int) : decide (n.natAbs ≤ 1000000000000000) = wi n (-1000000000000000) 1000000000000000 := by
  unfold wi
  rw [← Bool.decide_and]
  apply decide_eq_decide.2
  omega
set_option maxHeartbeats 1000000 in
theorem refCell_any (a b c : Int) (ha : a.natAbs ≤ 4000000000000000) (hb : b.natAbs ≤ 4000000000000000) (hc : c.natAbs ≤ 4000000000000000) (w : World) :
    Calls Try.prog 175 #[.int .i64 a, .int .i64 b, .int .i64 c] w fun e w' => e = .returned (.tuple #[.int .i64 (celV a b c), .bool (celOk a b c)]) ∧ w = w' := by
  obtain ⟨A, hA⟩ : ∃ A, A = a.natAbs := ⟨_, rfl⟩
  obtain ⟨B, hB⟩ : ∃ B, B = b.natAbs := ⟨_, rfl⟩
  have hsa := fun w => size_nat a A hA (by omega) (by omega) w
  have hsb := fun w => size_nat b B hB (by omega) (by omega) w
  have ha1 : -4000000000000000 ≤ a := by omega
  have ha2 : a ≤ 4000000000000000 := by omega
  have hb1 : -4000000000000000 ≤ b := by omega
  have hb2 : b ≤ 4000000000000000 := by omega
  have hc1 : -4000000000000000 ≤ c := by omega
  have hc2 : c ≤ 4000000000000000 := by omega
  by_cases h : A * B ≤ 2000000000000000
  · have h1 : celOk a b c = wi (a * b + c) (-1000000000000000) 1000000000000000 := by
      unfold celOk
      rw [← hA, ← hB, decide_eq_true h, Bool.true_and]
    have h2 : celV a b c = a * b + c := by
      unfold celV
      rw [← hA, ← hB, if_pos h]
    have hp := mul_int hA hB
    obtain ⟨p, hpe⟩ : ∃ p, p = a * b := ⟨_, rfl⟩
    rw [h1, h2]
    rw [← hpe] at hp ⊢
    have hp1 : -2000000000000000 ≤ p := by omega
    have hp2 : p ≤ 2000000000000000 := by omega
    have ep : IntKind.i64.wrap (a * b) = p := by
      rw [← hpe]
      exact IntWalk.i64_in _ (by omega)
    obtain ⟨N, hN⟩ : ∃ N, N = (p + c).natAbs := ⟨_, rfl⟩
    have hsn := fun w => size_nat (p + c) N hN (by omega) (by omega) w
    have hwi := wi_abs (p + c)
    rw [← hN] at hwi
    obtain ⟨V, hV⟩ : ∃ V, V = wi (p + c) (-1000000000000000) 1000000000000000 := ⟨_, rfl⟩
    rw [← hV] at hwi ⊢
    have hwi2 : decide ((N : Int) ≤ 1000000000000000) = V := by
      rw [← hwi]
      apply decide_eq_decide.2
      omega
    by_cases hb0 : b = 0
    · have d0 : (b != 0) = false := by rw [hb0]; rfl
      clear hb0 h1 h2 h hp hA hB hpe hN hV hwi ha hb hc
      go_enter Try.func175, Try.ntmps175
      go_wp2_with (go_at_call 131; refine (hsn _).mono ?_; rintro e w' ⟨rfl, rfl⟩)
      go_ret2
      exact ⟨rfl, rfl⟩
    · have d0 : (b != 0) = true := bne_iff_ne.2 hb0
      have hB0 : 0 < B := by omega
      have hq : ¬ 2000000000000000 / B < A := by
        rw [Nat.div_lt_iff_lt_mul hB0]
        omega
      obtain ⟨Q, hQ⟩ : ∃ Q, Q = 2000000000000000 / B := ⟨_, rfl⟩
      rw [← hQ] at hq
      have eQ : (2000000000000000 : Int) / (B : Int) = (Q : Int) := by rw [hQ]; simp
      have hQ1 : Q ≤ 2000000000000000 := by rw [hQ]; exact Nat.div_le_self _ _
      have hB1 : B ≤ 4000000000000000 := by omega
      have dB : ¬ B = 0 := by omega
      clear hb0 h1 h2 h hp hA hB hpe hN hV hwi ha hb hc hQ
      go_enter Try.func175, Try.ntmps175
      go_wp2_with (first
        | (go_at_call_of 131 (Value.int IntKind.i64 a); refine (hsa _).mono ?_; rintro e w' ⟨rfl, rfl⟩)
        | (go_at_call_of 131 (Value.int IntKind.i64 b); refine (hsb _).mono ?_; rintro e w' ⟨rfl, rfl⟩)
        | (go_at_call 131; refine (hsn _).mono ?_; rintro e w' ⟨rfl, rfl⟩))
      go_ret2
      exact ⟨rfl, rfl⟩
  · have h1 : celOk a b c = false := by
      unfold celOk
      rw [← hA, ← hB, decide_eq_false h, Bool.false_and]
    have h2 : celV a b c = 0 := by
      unfold celV
      rw [← hA, ← hB, if_neg h]
    rw [h1, h2]
    have hb0 : b ≠ 0 := by
      intro e
      subst e
      rw [hB] at h
      exact h (by simp)
    have d0 : (b != 0) = true := bne_iff_ne.2 hb0
    have hB0 : 0 < B := by omega
    have hq : 2000000000000000 / B < A := by
      rw [Nat.div_lt_iff_lt_mul hB0]
      omega
    obtain ⟨Q, hQ⟩ : ∃ Q, Q = 2000000000000000 / B := ⟨_, rfl⟩
    rw [← hQ] at hq
    have eQ : (2000000000000000 : Int) / (B : Int) = (Q : Int) := by rw [hQ]; simp
    have hQ1 : Q ≤ 2000000000000000 := by rw [hQ]; exact Nat.div_le_self _ _
    have hB1 : B ≤ 4000000000000000 := by omega
    have dB : ¬ B = 0 := by omega
    clear hb0 h1 h2 h hA hB ha hb hc hQ
    go_enter Try.func175, Try.ntmps175
    go_wp2_with (first
      | (go_at_call_of 131 (Value.int IntKind.i64 a); refine (hsa _).mono ?_; rintro e w' ⟨rfl, rfl⟩)
      | (go_at_call_of 131 (Value.int IntKind.i64 b); refine (hsb _).mono ?_; rintro e w' ⟨rfl, rfl⟩))
    go_ret2
    exact ⟨rfl, rfl⟩
set_option maxHeartbeats 1000000 in
theorem workCell_any (g : Nat) (m v : Value) (ok : Bool) (a b c : Int) (ha : a.natAbs ≤ 4000000000000000) (hb : b.natAbs ≤ 4000000000000000) (hc : c.natAbs ≤ 4000000000000000) (w : World) (hG : Blk w g 178 #[m, v, .bool ok]) :
    Calls Try.prog 147 #[.pointer (some ⟨g, 0, none⟩), .int .i64 a, .int .i64 b, .int .i64 c] w fun e w' => e = .returned (.int .i64 (celV a b c)) ∧ Chg w w' g ∧ Blk w' g 178 #[m, v, .bool (ok && celOk a b c)] := by
  have hr := fun w => refCell_any a b c ha hb hc w
  obtain ⟨V, hV⟩ : ∃ V, V = celV a b c := ⟨_, rfl⟩
  obtain ⟨K, hK⟩ : ∃ K, K = celOk a b c := ⟨_, rfl⟩
  simp only [← hV, ← hK] at hr ⊢
  clear hV hK
  have h2 := hG.cell 2
  have hf := hG.frozen 2
  cases ok
  all_goals
    go_enter Try.func147, Try.ntmps147
    go_wp2_with (go_at_call 175; refine (hr _).mono ?_; rintro e w' ⟨rfl, rfl⟩)
    go_ret
    exact ⟨rfl, (Chg.refl _ _).set _ _, by exact hG.set_ 2 _⟩
end Go.Proofs.Ytcfaammnkbkfcaa
