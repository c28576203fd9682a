/- A series is checked. -/
import Derived.Test.YtjgikfejfglllaaT2
import Derived.Test.YtjgikfejfglllaaR6
set_option linter.unusedVariables false
set_option linter.unusedSimpArgs false
namespace Go.Proofs.Ytjgikfejfglllaa
open Go.RowKit


/-- A series. -/
def serC (a b c d : Int) (t : Bool) : Array Value := #[.int .i64 a, .int .i64 b, .int .i64 c, .int .i64 d, .bool t]
/-- Is it valid? -/
def vsr (a b c d : Int) : Bool := wi b 2 1000 && wi a 1 (b / 2) && wi c 1 1000 && wi d 0 1000
theorem vsr_nat {a b c d : Int} (h : vsr a b c d = true) : ∃ A B C D : Nat, a = A ∧ b = B ∧ c = C ∧ d = D ∧ 2 ≤ B ∧ B ≤ 1000 ∧ 1 ≤ A ∧ 2 * A ≤ B ∧ 1 ≤ C ∧ C ≤ 1000 ∧ D ≤ 1000 := by
  simp [vsr, wi] at h
  exact ⟨a.toNat, b.toNat, c.toNat, d.toNat, by omega, by omega, by omega, by omega, by omega, by omega, by omega, by omega, by omega, by omega, by omega⟩
set_option maxHeartbeats 1000000 in
theorem valid_any (a b c d : Int) (t : Bool) (w : World) : Calls Try.prog 55 #[.agg (serC a b c d t)] w fun e w' => e = .returned (.bool (vsr a b c d)) ∧ Below w.heap.size w w' := by
  unfold serC vsr
  by_cases h1 : wi b 2 1000 = true
  · have hb : 2 ≤ b := by simp [wi] at h1; omega
    have hb2 : b ≤ 1000 := by simp [wi] at h1; omega
    have e1 : b.tdiv 2 = b / 2 := Int.tdiv_eq_ediv_of_nonneg (by omega)
    by_cases h2 : wi a 1 (b / 2) = true
    · by_cases h3 : wi c 1 1000 = true
      · rw [h1, h2, h3]
        obtain ⟨q, hq⟩ : ∃ q, q = wi d 0 1000 := ⟨_, rfl⟩
        have h4 := hq.symm
        rw [← hq]
        have HQ := Lib.hid hq
        clear hq
        go_enter Try.func55, Try.ntmps55
        go_wp2_with (go_at_call 64; refine (within_any _ _ _ _).mono ?_; rintro e w' ⟨rfl, rfl⟩)
        go_ret
        exact ⟨rfl, below_alloc (Below.refl _ _) _⟩
      · have h3 : wi c 1 1000 = false := by simpa using h3
        rw [h1, h2, h3]
        go_enter Try.func55, Try.ntmps55
        go_wp2_with (go_at_call 64; refine (within_any _ _ _ _).mono ?_; rintro e w' ⟨rfl, rfl⟩)
        go_ret
        exact ⟨rfl, below_alloc (Below.refl _ _) _⟩
    · have h2 : wi a 1 (b / 2) = false := by simpa using h2
      rw [h1, h2]
      go_enter Try.func55, Try.ntmps55
      go_wp2_with (go_at_call 64; refine (within_any _ _ _ _).mono ?_; rintro e w' ⟨rfl, rfl⟩)
      go_ret
      exact ⟨rfl, below_alloc (Below.refl _ _) _⟩
  · have h1 : wi b 2 1000 = false := by simpa using h1
    rw [h1]
    go_enter Try.func55, Try.ntmps55
    go_wp2_with (go_at_call 64; refine (within_any _ _ _ _).mono ?_; rintro e w' ⟨rfl, rfl⟩)
    go_ret
    exact ⟨rfl, below_alloc (Below.refl _ _) _⟩
end Go.Proofs.Ytjgikfejfglllaa
