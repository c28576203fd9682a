/- Terms of roots by their index. -/
import Derived.Test.YtjgikfejfglllaaR3
import Derived.Test.YtjgikfejfglllaaR4
set_option linter.unusedVariables false
set_option linter.unusedSimpArgs false
namespace Go.Proofs.Ytjgikfejfglllaa
open Go.RowKit

theorem rootTerms_any (n : Int) (h0 : -9223372036854775808 ≤ n) (h1 : n ≤ 9223372036854775807) (w : World) : Calls Try.prog 22 #[.int .i64 n] w fun e w' => ∃ v, e = .returned (.tuple #[.int .i64 (rootT n).1, v, .int .i64 (rootT n).2.2]) ∧ Rd w' v (rootT n).2.1 ∧ Below w.heap.size w w' := by
  by_cases h : wi n 0 1000000 = true
  · obtain ⟨N, rfl⟩ : ∃ N : Nat, n = N := ⟨n.toNat, by simp [wi] at h; omega⟩
    have hN : N ≤ 1000000 := by simp [wi] at h; omega
    by_cases hs : isq N * isq N = N
    · rw [rootT_sq hN hs]
      exact rootTerms_sq N hN hs w
    · exact rootTerms_in N hN hs w
  · rw [rootT_out (by simpa using h)]
    exact rootTerms_out n (by simpa using h) w
theorem refPeriod_any (n : Int) (h0 : -9223372036854775808 ≤ n) (h1 : n ≤ 9223372036854775807) (w : World) : Calls Try.prog 58 #[.int .i64 n] w fun e w' => ∃ v, e = .returned (.tuple #[.int .i64 (rootT n).1, v, .int .i64 (rootT n).2.2]) ∧ Rd w' v (rootT n).2.1 ∧ Below w.heap.size w w' := by
  by_cases h : wi n 0 1000000 = true
  · obtain ⟨N, rfl⟩ : ∃ N : Nat, n = N := ⟨n.toNat, by simp [wi] at h; omega⟩
    have hN : N ≤ 1000000 := by simp [wi] at h; omega
    by_cases hs : isq N * isq N = N
    · rw [rootT_sq hN hs]
      exact refPeriod_sq N hN hs w
    · exact refPeriod_in N hN hs w
  · rw [rootT_out (by simpa using h)]
    exact refPeriod_out n (by simpa using h) w
theorem rootTerm_zero (f : Nat) (v : Value) (w : World) : Calls Try.prog 67 #[.int .i64 f, v, .int .i64 0] w fun e w' => e = .returned (.int .i64 f) ∧ w = w' := by
  go_enter Try.func67, Try.ntmps67
  go_wp2
  go_ret
  exact ⟨rfl, rfl⟩
theorem rootTerm_pos (f : Nat) (v : Value) (l : List Nat) (k : Nat) (hk : 0 < k) (hk2 : k ≤ 1000000000) (hl : l ≠ []) (hl2 : l.length ≤ 3000) (w : World) (hv : Rd w v l) : Calls Try.prog 67 #[.int .i64 f, v, .int .i64 k] w fun e w' => e = .returned (.int .i64 (l.getD ((k - 1) % l.length) 0)) ∧ w = w' := by
  obtain ⟨A, c, rfl, hc, hr⟩ := hv
  obtain ⟨g, rfl, hg, hx⟩ := hr hl
  have hpos : 0 < l.length := List.length_pos_iff.2 hl
  have hj := Nat.mod_lt (k - 1) hpos
  have hcell : w.cell? ⟨g, (k - 1) % l.length, none⟩ = some (.int .i64 (l.getD ((k - 1) % l.length) 0 : Nat)) := by
    rw [hx _ _ (List.getElem?_eq_getElem hj)]
    simp [hj]
  have hk0 : (((k : Nat) : Int) == 0) = false := beq_eq_false_iff_ne.2 (by omega)
  obtain ⟨y, hy⟩ : ∃ y, y = l.getD ((k - 1) % l.length) 0 := ⟨_, rfl⟩
  rw [← hy] at hcell ⊢
  clear hx hy hl
  generalize l.length = len at *
  have hnz : ¬ len = 0 := by omega
  have hm : ((k : Int) - 1) % (len : Int) = (((k - 1) % len : Nat) : Int) := by
    rw [show (k : Int) - 1 = ((k - 1 : Nat) : Int) by omega]
    rfl
  have hm0 : 0 ≤ ((k : Int) - 1) % (len : Int) := by omega
  have hm1 : ((k : Int) - 1) % (len : Int) < (len : Int) := by omega
  clear hm
  go_enter Try.func67, Try.ntmps67
  go_wp2
  go_ret
  exact ⟨rfl, rfl⟩
theorem refRootAt_zero (f : Nat) (v : Value) (w : World) : Calls Try.prog 68 #[.int .i64 f, v, .int .i64 0] w fun e w' => e = .returned (.int .i64 f) ∧ w = w' := by
  go_enter Try.func68, Try.ntmps68
  go_wp2
  go_ret
  exact ⟨rfl, rfl⟩
theorem refRootAt_pos (f : Nat) (v : Value) (l : List Nat) (k : Nat) (hk : 0 < k) (hk2 : k ≤ 1000000000) (hl : l ≠ []) (hl2 : l.length ≤ 3000) (w : World) (hv : Rd w v l) : Calls Try.prog 68 #[.int .i64 f, v, .int .i64 k] w fun e w' => e = .returned (.int .i64 (l.getD ((k - 1) % l.length) 0)) ∧ w = w' := by
  obtain ⟨A, c, rfl, hc, hr⟩ := hv
  obtain ⟨g, rfl, hg, hx⟩ := hr hl
  have hpos : 0 < l.length := List.length_pos_iff.2 hl
  have hj := Nat.mod_lt (k - 1) hpos
  have hcell : w.cell? ⟨g, (k - 1) % l.length, none⟩ = some (.int .i64 (l.getD ((k - 1) % l.length) 0 : Nat)) := by
    rw [hx _ _ (List.getElem?_eq_getElem hj)]
    simp [hj]
  have hk0 : (((k : Nat) : Int) == 0) = false := beq_eq_false_iff_ne.2 (by omega)
  obtain ⟨y, hy⟩ : ∃ y, y = l.getD ((k - 1) % l.length) 0 := ⟨_, rfl⟩
  rw [← hy] at hcell ⊢
  clear hx hy hl
  generalize l.length = len at *
  have hnz : ¬ len = 0 := by omega
  have hm : ((k : Int) - 1) % (len : Int) = (((k - 1) % len : Nat) : Int) := by
    rw [show (k : Int) - 1 = ((k - 1 : Nat) : Int) by omega]
    rfl
  have hm0 : 0 ≤ ((k : Int) - 1) % (len : Int) := by omega
  have hm1 : ((k : Int) - 1) % (len : Int) < (len : Int) := by omega
  clear hm
  go_enter Try.func68, Try.ntmps68
  go_wp2
  go_ret
  exact ⟨rfl, rfl⟩

/-- The term of a root with an index. -/
def rterm (f : Nat) (l : List Nat) (k : Nat) : Nat := if k = 0 then f else l.getD ((k - 1) % l.length) 0
theorem rper_length (n f : Nat) : ∀ k m d a acc l, acc.length ≤ 3000 → rper n f k m d a acc = some l → l.length ≤ 3000 := by
  intro k
  induction k with
  | zero => intro m d a acc l _ h; simp [rper] at h
  | succ k ih =>
    intro m d a acc l ha h
    rw [rper] at h
    by_cases c : a = 2 * f
    · rw [if_pos c] at h
      injection h with h
      rw [← h]
      exact ha
    · rw [if_neg c] at h
      by_cases c2 : acc.length = 3000
      · rw [if_pos c2] at h
        cases h
      · rw [if_neg c2] at h
        exact ih _ _ _ _ _ (by simp; omega) h
theorem rootT_length (n : Int) : (rootT n).2.1.length ≤ 3000 := by
  unfold rootT
  split
  · split
    · simp
    · split
      · simp
      · rename_i l h
        exact rper_length _ _ _ _ _ _ _ _ (by simp) h
  · simp
theorem rootTerm_any (f : Nat) (v : Value) (l : List Nat) (k : Nat) (hk2 : k ≤ 1000000000) (hl : 0 < k → l ≠ []) (hl2 : l.length ≤ 3000) (w : World) (hv : Rd w v l) : Calls Try.prog 67 #[.int .i64 f, v, .int .i64 k] w fun e w' => e = .returned (.int .i64 (rterm f l k)) ∧ w = w' := by
  by_cases h : k = 0
  · subst h
    exact rootTerm_zero f v w
  · have e : rterm f l k = l.getD ((k - 1) % l.length) 0 := by simp only [rterm]; rw [if_neg h]
    rw [e]
    exact rootTerm_pos f v l k (by omega) hk2 (hl (by omega)) hl2 w hv
theorem refRootAt_any (f : Nat) (v : Value) (l : List Nat) (k : Nat) (hk2 : k ≤ 1000000000) (hl : 0 < k → l ≠ []) (hl2 : l.length ≤ 3000) (w : World) (hv : Rd w v l) : Calls Try.prog 68 #[.int .i64 f, v, .int .i64 k] w fun e w' => e = .returned (.int .i64 (rterm f l k)) ∧ w = w' := by
  by_cases h : k = 0
  · subst h
    exact refRootAt_zero f v w
  · have e : rterm f l k = l.getD ((k - 1) % l.length) 0 := by simp only [rterm]; rw [if_neg h]
    rw [e]
    exact refRootAt_pos f v l k (by omega) hk2 (hl (by omega)) hl2 w hv
end Go.Proofs.Ytjgikfejfglllaa
