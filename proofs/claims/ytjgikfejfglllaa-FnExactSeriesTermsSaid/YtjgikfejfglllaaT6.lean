/- Plain laws of shifts: a size times a power of two, limb by limb. -/
import Derived.Test.YtjgikfejfglllaaT1
import Derived.Laws.BitsAllLaws
set_option linter.unusedVariables false
set_option linter.unusedSimpArgs false
namespace Go.Proofs.Ytjgikfejfglllaa
open Go.RowKit


theorem p32 {r : Nat} (hr : r ≤ 32) : 2 ^ (32 - r) * 2 ^ r = 4294967296 := by
  rw [← Nat.pow_add, show 32 - r + r = 32 by omega]
theorem pow_le32 {r : Nat} (hr : r ≤ 32) : 2 ^ r ≤ 4294967296 := Nat.le_trans (Nat.pow_le_pow_right (by omega) hr) (by decide)
/-- What a limb gives when it is shifted by r bits, and what it hands on. -/
def shH (x r : Nat) : Nat := x * 2 ^ r % 4294967296
def shL (x r : Nat) : Nat := x / 2 ^ (32 - r)
theorem shH_lt (x r : Nat) : shH x r < 4294967296 := Nat.mod_lt _ (by decide)
theorem shH_form {x r : Nat} (hr : r ≤ 32) : shH x r = x % 2 ^ (32 - r) * 2 ^ r := by
  unfold shH
  rw [← p32 hr, Nat.mul_mod_mul_right]
theorem shH_mod {x r : Nat} (hr : r ≤ 32) : shH x r % 2 ^ r = 0 := by rw [shH_form hr, Nat.mul_mod_left]
theorem shL_lt {x r : Nat} (hr : r ≤ 32) (hx : x < 4294967296) : shL x r < 2 ^ r := by
  unfold shL
  rw [Nat.div_lt_iff_lt_mul (Nat.two_pow_pos _), Nat.mul_comm, p32 hr]
  exact hx
theorem shH_le {x r : Nat} (hr : r ≤ 32) : shH x r + 2 ^ r ≤ 4294967296 := by
  rw [shH_form hr, ← p32 hr]
  have h := Nat.mod_lt x (Nat.two_pow_pos (32 - r))
  have := Nat.mul_le_mul_right (2 ^ r) h
  rw [Nat.succ_mul] at this
  exact this
theorem sh_or {x y r : Nat} (hr : r ≤ 32) (hy : y < 4294967296) : shH x r ||| shL y r = shH x r + shL y r := nat_join r _ _ (shH_mod hr) (shL_lt hr hy)
theorem sh_or' {x y r : Nat} (hr : r ≤ 32) (hy : y < 4294967296) : shL y r ||| shH x r = shH x r + shL y r := by rw [Nat.or_comm, sh_or hr hy]
theorem sh_sum {x y r : Nat} (hr : r ≤ 32) (hy : y < 4294967296) : shH x r + shL y r < 4294967296 := by
  have := shH_le (x := x) hr
  have := shL_lt (x := y) hr hy
  omega
theorem shL_zero {x : Nat} (hx : x < 4294967296) : shL x 0 = 0 := by
  unfold shL
  exact Nat.div_eq_of_lt hx
theorem shH_zero {x : Nat} (hx : x < 4294967296) : shH x 0 = x := by
  unfold shH
  rw [Nat.pow_zero, Nat.mul_one, Nat.mod_eq_of_lt hx]
theorem pw_add (a b : Nat) : pw (a + b) = pw a * pw b := by
  unfold pw
  rw [Nat.mul_add, Nat.pow_add]
/-- A limb of a size times a power of two, from below. -/
theorem lb_up_low (M L r k : Nat) (h : k < L) : lb (M * 2 ^ (32 * L + r)) k = 0 := by
  obtain ⟨d, rfl⟩ : ∃ d, L = k + 1 + d := ⟨L - (k + 1), by omega⟩
  rw [lb_pw, show M * 2 ^ (32 * (k + 1 + d) + r) = 4294967296 * (2 ^ (32 * d + r) * M) * pw k by
    unfold pw
    rw [show 32 * (k + 1 + d) + r = 32 + (32 * d + r) + 32 * k by omega, Nat.pow_add, Nat.pow_add]
    grind, Nat.mul_div_cancel _ (pw_pos k), Nat.mul_mod_right]
theorem lb_up_at (M L r j : Nat) : lb (M * 2 ^ (32 * L + r)) (L + j) = M * 2 ^ r / pw j % 4294967296 := by
  rw [lb_pw, pw_add, show M * 2 ^ (32 * L + r) = M * 2 ^ r * pw L by
    unfold pw
    rw [Nat.pow_add]
    grind, ← Nat.div_div_eq_div_mul, Nat.mul_div_cancel _ (pw_pos L)]
theorem lb_up_first (M L r : Nat) : lb (M * 2 ^ (32 * L + r)) L = shH (lb M 0) r := by
  have h := lb_up_at M L r 0
  rw [Nat.add_zero, pw_zero, Nat.div_one] at h
  rw [h, shH, lb_pw, pw_zero, Nat.div_one, Nat.mod_mul_mod]
theorem lb_up_next (M L r i : Nat) (hr : r ≤ 32) : lb (M * 2 ^ (32 * L + r)) (L + (i + 1)) = shH (lb M (i + 1)) r + shL (lb M i) r := by
  rw [lb_up_at]
  have e1 : M * 2 ^ r / pw (i + 1) = M / pw i / 2 ^ (32 - r) := by
    rw [pw_succ, ← p32 hr, ← Nat.mul_assoc, Nat.mul_div_mul_right _ _ (Nat.two_pow_pos r), Nat.div_div_eq_div_mul]
  have e2 : M / pw i / 2 ^ (32 - r) = M / pw (i + 1) * 2 ^ r + shL (lb M i) r := by
    rw [div_pw M i]
    unfold shL
    rw [show M / pw (i + 1) * 4294967296 = M / pw (i + 1) * 2 ^ r * 2 ^ (32 - r) by rw [← p32 hr]; grind, Nat.add_comm, Nat.add_mul_div_right _ _ (Nat.two_pow_pos _), Nat.add_comm]
  have e3 : M / pw (i + 1) * 2 ^ r % 4294967296 = shH (lb M (i + 1)) r := by
    unfold shH
    rw [lb_pw, Nat.mod_mul_mod]
  have h := sh_sum (x := lb M (i + 1)) (y := lb M i) hr (lb_lt M i)
  rw [e1, e2, ← Nat.mod_add_mod, e3, Nat.mod_eq_of_lt h]
/-- The number of bits. -/
def nb (M : Nat) : Nat := if M = 0 then 0 else Nat.log2 M + 1
theorem nb_le {M k : Nat} : nb M ≤ k ↔ M < 2 ^ k := by
  unfold nb
  by_cases h : M = 0
  · subst h
    simp [Nat.two_pow_pos]
  · rw [if_neg h, ← Nat.log2_lt h]
    omega
theorem nb_up {M k : Nat} : nb M + k ≤ 192 ↔ k ≤ 192 ∧ M * 2 ^ k < pw 6 ∨ M = 0 ∧ k ≤ 192 := by
  have e : pw 6 = 2 ^ 192 := rfl
  constructor
  · intro h
    have h1 : M < 2 ^ (192 - k) := nb_le.1 (by omega)
    have h2 : 2 ^ (192 - k) * 2 ^ k = 2 ^ 192 := by rw [← Nat.pow_add, show 192 - k + k = 192 by omega]
    refine .inl ⟨by omega, ?_⟩
    rw [e, ← h2]
    exact Nat.mul_lt_mul_of_pos_right h1 (Nat.two_pow_pos k)
  · rintro (⟨h1, h2⟩ | ⟨rfl, h⟩)
    · have h3 : 2 ^ (192 - k) * 2 ^ k = 2 ^ 192 := by rw [← Nat.pow_add, show 192 - k + k = 192 by omega]
      rw [e, ← h3] at h2
      have := nb_le.2 (Nat.lt_of_mul_lt_mul_right h2)
      omega
    · simp [nb]
      omega
end Go.Proofs.Ytjgikfejfglllaa
