/- Bounds and integer square roots. -/
import Derived.Test.YtjgikfejfglllaaRp
import Derived.Test.YtjgikfejfglllaaRow
set_option linter.unusedVariables false
set_option linter.unusedSimpArgs false
namespace Go.Proofs.Ytjgikfejfglllaa
open Go.RowKit


/-- a lies from b to c. -/
def wi (a b c : Int) : Bool := decide (b ≤ a) && decide (a ≤ c)
theorem within_any (a b c : Int) (w : World) : Calls Try.prog 64 #[.int .i64 a, .int .i64 b, .int .i64 c] w fun e w' => e = .returned (.bool (wi a b c)) ∧ w = w' := by
  by_cases h : b ≤ a
  · have hw : wi a b c = decide (a ≤ c) := by simp [wi, h]
    rw [hw]
    clear hw
    go_enter Try.func64, Try.ntmps64
    go_wp2
    go_ret
    exact ⟨rfl, rfl⟩
  · have hw : wi a b c = false := by simp [wi, h]
    rw [hw]
    clear hw
    have h' : a < b := by omega
    go_enter Try.func64, Try.ntmps64
    go_wp2
    go_ret
    exact ⟨rfl, rfl⟩
theorem in_any (a b c : Int) (w : World) : Calls Try.prog 110 #[.int .i64 a, .int .i64 b, .int .i64 c] w fun e w' => e = .returned (.bool (wi a b c)) ∧ w = w' := by
  by_cases h : b ≤ a
  · have hw : wi a b c = decide (a ≤ c) := by simp [wi, h]
    rw [hw]
    clear hw
    go_enter Try.func110, Try.ntmps110
    go_wp2
    go_ret
    exact ⟨rfl, rfl⟩
  · have hw : wi a b c = false := by simp [wi, h]
    rw [hw]
    clear hw
    have h' : a < b := by omega
    go_enter Try.func110, Try.ntmps110
    go_wp2
    go_ret
    exact ⟨rfl, rfl⟩
theorem squareRoot_any (n : Nat) (hn : n ≤ 1000000) (w : World) : Calls Try.prog 65 #[.int .i64 n] w fun e w' => e = .returned (.int .i64 (isq n)) ∧ w = w' := by
  go_enter Try.func65, Try.ntmps65
  go_wp2
  go_loop [3] (fun t => ∃ r : Nat, r ≤ 1000 ∧ r * r ≤ n ∧ t = .int .i64 r) (fun t => 1001 - (intOf t).toNat)
  case atStart => exact ⟨0, by omega, by omega, rfl⟩
  case round =>
    obtain ⟨r, hr, hle, rfl⟩ := hrel
    have HL := Lib.hid hle
    clear hle
    have e1 : ((r : Int) + 1) * ((r : Int) + 1) = (((r + 1) * (r + 1) : Nat) : Int) := by simp
    have hb : (r + 1) * (r + 1) ≤ 1002001 := by
      have := sq_le (show r + 1 ≤ 1001 by omega)
      omega
    obtain ⟨s, hs⟩ : ∃ s, s = (r + 1) * (r + 1) := ⟨_, rfl⟩
    rw [← hs] at e1 hb
    have HS := Lib.hid hs
    clear hs
    by_cases c : s ≤ n
    · go_wp2
      go_round
      case rel =>
        have hs := HS.out
        refine ⟨r + 1, ?_, by rw [← hs]; exact c, by go_num⟩
        rcases Nat.lt_or_ge r 1000 with g | g
        · omega
        · have := sq_le (show 1001 ≤ r + 1 by omega)
          omega
      case measure => simp [intOf] <;> omega
    · go_wp2
      go_ret
      have hs := HS.out
      have hle := HL.out
      exact ⟨by rw [isq_unique hn hle (by omega)]; rfl, rfl⟩
theorem refRoot_any (n : Nat) (hn : n ≤ 1000000) (w : World) : Calls Try.prog 111 #[.int .i64 n] w fun e w' => e = .returned (.int .i64 (isq n)) ∧ w = w' := by
  go_enter Try.func111, Try.ntmps111
  go_wp2
  go_loop [3] (fun t => ∃ r : Nat, r ≤ 1000 ∧ r * r ≤ n ∧ t = .int .i64 r) (fun t => 1001 - (intOf t).toNat)
  case atStart => exact ⟨0, by omega, by omega, rfl⟩
  case round =>
    obtain ⟨r, hr, hle, rfl⟩ := hrel
    have HL := Lib.hid hle
    clear hle
    have e1 : ((r : Int) + 1) * ((r : Int) + 1) = (((r + 1) * (r + 1) : Nat) : Int) := by simp
    have hb : (r + 1) * (r + 1) ≤ 1002001 := by
      have := sq_le (show r + 1 ≤ 1001 by omega)
      omega
    obtain ⟨s, hs⟩ : ∃ s, s = (r + 1) * (r + 1) := ⟨_, rfl⟩
    rw [← hs] at e1 hb
    have HS := Lib.hid hs
    clear hs
    by_cases c : s ≤ n
    · go_wp2
      go_round
      case rel =>
        have hs := HS.out
        refine ⟨r + 1, ?_, by rw [← hs]; exact c, by go_num⟩
        rcases Nat.lt_or_ge r 1000 with g | g
        · omega
        · have := sq_le (show 1001 ≤ r + 1 by omega)
          omega
      case measure => simp [intOf] <;> omega
    · go_wp2
      go_ret
      have hs := HS.out
      have hle := HL.out
      exact ⟨by rw [isq_unique hn hle (by omega)]; rfl, rfl⟩
end Go.Proofs.Ytjgikfejfglllaa
