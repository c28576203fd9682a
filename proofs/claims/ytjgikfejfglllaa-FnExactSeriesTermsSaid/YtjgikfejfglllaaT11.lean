/- Plain laws of the long division, bit by bit. -/
import Derived.Test.YtjgikfejfglllaaT8
set_option linter.unusedVariables false
set_option linter.unusedSimpArgs false
namespace Go.Proofs.Ytjgikfejfglllaa
open Go.RowKit


theorem twice_div (r b j : Nat) (hb : b ≤ 1) : (2 * r + b) / pw (j + 1) = r * 2 / pw (j + 1) := by
  have e : pw (j + 1) = 2 * (pw j * 2147483648) := by rw [pw_succ]; omega
  have e2 : (2 * r + b) / 2 = r * 2 / 2 := by omega
  rw [e, ← Nat.div_div_eq_div_mul (2 * r + b) 2, ← Nat.div_div_eq_div_mul (r * 2) 2, e2]
theorem twice_next (r b j : Nat) (hb : b ≤ 1) : lb (2 * r + b) (j + 1) = shH (lb r (j + 1)) 1 + shL (lb r j) 1 := by
  have h := lb_up_next r 0 1 j (by omega)
  rw [Nat.mul_zero, Nat.zero_add, Nat.zero_add, Nat.pow_one] at h
  rw [← h, lb_pw, lb_pw, twice_div r b j hb]
theorem twice_low (r b : Nat) (hb : b ≤ 1) : lb (2 * r + b) 0 = shH (lb r 0) 1 + b := by
  unfold shH
  rw [lb_pw, lb_pw, pw_zero, Nat.div_one, Nat.div_one, Nat.pow_one]
  omega
theorem top_aux {r P : Nat} (hp : 0 < P) (h : r < 2 * P) : r / P = if 2 * P ≤ 2 * r then 1 else 0 := by
  by_cases c : 2 * P ≤ 2 * r
  · rw [if_pos c]
    have h1 : r / P < 2 := by
      rw [Nat.div_lt_iff_lt_mul hp]
      exact h
    have h2 := Nat.div_pos (show P ≤ r by omega) hp
    omega
  · rw [if_neg c]
    exact Nat.div_eq_of_lt (by omega)
theorem pw_top : pw 6 = 2 * (pw 5 * 2147483648) := by
  rw [pw_succ]
  generalize pw 5 = P
  omega
/-- The highest bit. -/
theorem top_bit {r : Nat} (h : r < pw 6) : lb r 5 / 2147483648 = if pw 6 ≤ 2 * r then 1 else 0 := by
  have e : lb r 5 = r / pw 5 := by
    rw [lb_pw, Nat.mod_eq_of_lt]
    rw [Nat.div_lt_iff_lt_mul (pw_pos 5), Nat.mul_comm, ← pw_succ]
    exact h
  rw [e, Nat.div_div_eq_div_mul]
  rw [pw_top] at h ⊢
  exact top_aux (Nat.mul_pos (pw_pos 5) (by decide)) h
theorem bit_at (M K : Nat) : lb M (K / 32) / 2 ^ (K % 32) % 2 = M / 2 ^ K % 2 := by
  have hs : K % 32 < 32 := Nat.mod_lt _ (by decide)
  obtain ⟨J, s, rfl, hJ, hS⟩ : ∃ J s, K = 32 * J + s ∧ K / 32 = J ∧ K % 32 = s := ⟨K / 32, K % 32, (Nat.div_add_mod K 32).symm, rfl, rfl⟩
  rw [hJ, hS, Nat.pow_add, ← Nat.div_div_eq_div_mul]
  rw [hS] at hs
  show lb M J / 2 ^ s % 2 = M / pw J / 2 ^ s % 2
  rw [lb_pw]
  have e : 4294967296 = 2 ^ s * (2 * 2 ^ (31 - s)) := by
    rw [show 2 ^ s * (2 * 2 ^ (31 - s)) = 2 ^ (s + 1 + (31 - s)) by rw [Nat.pow_add, Nat.pow_add]; grind, show s + 1 + (31 - s) = 32 by omega]
  rw [e, Nat.mod_mul_right_div_self, Nat.mod_mul_right_mod]
theorem half_again (M K : Nat) : M / 2 ^ K = 2 * (M / 2 ^ (K + 1)) + M / 2 ^ K % 2 := by
  rw [Nat.pow_succ, ← Nat.div_div_eq_div_mul]
  omega
theorem div_bit (T N b : Nat) (hN : 0 < N) (hb : b ≤ 1) : (2 * T + b) / N = 2 * (T / N) + (if N ≤ 2 * (T % N) + b then 1 else 0) ∧ (2 * T + b) % N = if N ≤ 2 * (T % N) + b then 2 * (T % N) + b - N else 2 * (T % N) + b := by
  have h1 := Nat.div_add_mod T N
  have h2 := Nat.mod_lt T hN
  obtain ⟨q, hq⟩ : ∃ q, q = T / N := ⟨_, rfl⟩
  obtain ⟨r, hr⟩ : ∃ r, r = T % N := ⟨_, rfl⟩
  rw [← hq, ← hr] at h1
  rw [← hr] at h2
  rw [← hq, ← hr]
  have e : 2 * T + b = N * (2 * q) + (2 * r + b) := by rw [← h1]; grind
  rw [e, Nat.mul_add_div hN, Nat.mul_add_mod]
  by_cases c : N ≤ 2 * r + b
  · rw [if_pos c, if_pos c]
    have d : 2 * r + b = N * 1 + (2 * r + b - N) := by omega
    have k : (2 * r + b) / N = 1 ∧ (2 * r + b) % N = 2 * r + b - N := by
      have z : 2 * r + b - N < N := by omega
      rw [d, Nat.mul_add_div hN, Nat.mul_add_mod, Nat.mul_one, Nat.add_sub_cancel_left, Nat.div_eq_of_lt z, Nat.mod_eq_of_lt z]
      exact ⟨rfl, rfl⟩
    rw [k.1, k.2]
    exact ⟨rfl, rfl⟩
  · rw [if_neg c, if_neg c, Nat.div_eq_of_lt (by omega), Nat.mod_eq_of_lt (by omega)]
    exact ⟨rfl, rfl⟩
/-- One bit more in the quotient. -/
theorem quo_bit (Q K j : Nat) : lb (Q * 2 ^ (K + 1) + 2 ^ K) j = if j = K / 32 then lb (Q * 2 ^ (K + 1)) j + 2 ^ (K % 32) else lb (Q * 2 ^ (K + 1)) j := by
  have hs : K % 32 < 32 := Nat.mod_lt _ (by decide)
  obtain ⟨J, s, rfl, hJ, hS⟩ : ∃ J s, K = 32 * J + s ∧ K / 32 = J ∧ K % 32 = s := ⟨K / 32, K % 32, (Nat.div_add_mod K 32).symm, rfl, rfl⟩
  rw [hS] at hs
  rw [hJ, hS]
  have eA : Q * 2 ^ (32 * J + s + 1) = Q * 2 ^ (s + 1) * pw J := by
    unfold pw
    rw [show 32 * J + s + 1 = s + 1 + 32 * J by omega, Nat.pow_add _ (s + 1)]
    grind
  have eB : Q * 2 ^ (32 * J + s + 1) + 2 ^ (32 * J + s) = (Q * 2 ^ (s + 1) + 2 ^ s) * pw J := by
    rw [eA, Nat.add_mul]
    congr 1
    unfold pw
    rw [← Nat.pow_add, Nat.add_comm]
  rw [eB, eA]
  have e32 : 4294967296 = 2 ^ (s + 1) * 2 ^ (31 - s) := by
    rw [← Nat.pow_add, show s + 1 + (31 - s) = 32 by omega]
  have hpos := Nat.two_pow_pos s
  have e1 : 2 ^ (s + 1) = 2 * 2 ^ s := by rw [Nat.pow_succ]; omega
  rcases Nat.lt_trichotomy j J with c | c | c
  · rw [if_neg (by omega)]
    obtain ⟨d, rfl⟩ : ∃ d, J = j + 1 + d := ⟨J - j - 1, by omega⟩
    have z : ∀ x, lb (x * pw (j + 1 + d)) j = 0 := fun x => by
      have h := lb_up_low x (j + 1 + d) 0 j (by omega)
      rw [Nat.add_zero] at h
      exact h
    rw [z, z]
  · subst c
    rw [if_pos rfl, lb_pw, lb_pw, Nat.mul_div_cancel _ (pw_pos j), Nat.mul_div_cancel _ (pw_pos j)]
    have h1 : Q * 2 ^ (s + 1) % 4294967296 = Q % 2 ^ (31 - s) * 2 ^ (s + 1) := by rw [e32, Nat.mul_comm (2 ^ (s + 1)), Nat.mul_mod_mul_right]
    have h2 := Nat.mod_lt Q (Nat.two_pow_pos (31 - s))
    have h3 := Nat.mul_le_mul_right (2 ^ (s + 1)) h2
    rw [Nat.succ_mul, Nat.mul_comm (2 ^ (31 - s)), ← e32, ← h1] at h3
    rw [← Nat.mod_add_mod, Nat.mod_eq_of_lt (by omega)]
  · rw [if_neg (by omega)]
    obtain ⟨d, rfl⟩ : ∃ d, j = J + (d + 1) := ⟨j - J - 1, by omega⟩
    have e4 : pw (d + 1) = 2 ^ (s + 1) * (2 ^ (31 - s) * pw d) := by
      rw [pw_succ, Nat.mul_comm, e32]
      grind
    rw [lb_pw, lb_pw, pw_add, Nat.mul_comm (pw J), Nat.mul_div_mul_right _ _ (pw_pos J), Nat.mul_div_mul_right _ _ (pw_pos J), e4, ← Nat.div_div_eq_div_mul _ (2 ^ (s + 1)), ← Nat.div_div_eq_div_mul _ (2 ^ (s + 1))]
    have h5 : (Q * 2 ^ (s + 1) + 2 ^ s) / 2 ^ (s + 1) = Q := by
      rw [Nat.mul_comm, Nat.mul_add_div (Nat.two_pow_pos _), Nat.div_eq_of_lt (by omega), Nat.add_zero]
    rw [h5, Nat.mul_div_cancel _ (Nat.two_pow_pos _)]
theorem quo_limb_mod (Q K : Nat) : lb (Q * 2 ^ (K + 1)) (K / 32) % 2 ^ (K % 32 + 1) = 0 ∧ lb (Q * 2 ^ (K + 1)) (K / 32) + 2 ^ (K % 32) < 4294967296 := by
  have h := quo_bit Q K (K / 32)
  rw [if_pos rfl] at h
  have h2 := lb_lt (Q * 2 ^ (K + 1) + 2 ^ K) (K / 32)
  refine ⟨?_, by omega⟩
  have hs : K % 32 < 32 := Nat.mod_lt _ (by decide)
  obtain ⟨J, s, rfl, hJ, hS⟩ : ∃ J s, K = 32 * J + s ∧ K / 32 = J ∧ K % 32 = s := ⟨K / 32, K % 32, (Nat.div_add_mod K 32).symm, rfl, rfl⟩
  rw [hS] at hs
  rw [hJ, hS]
  have eA : Q * 2 ^ (32 * J + s + 1) = Q * 2 ^ (s + 1) * pw J := by
    unfold pw
    rw [show 32 * J + s + 1 = s + 1 + 32 * J by omega, Nat.pow_add _ (s + 1)]
    grind
  have e32 : 4294967296 = 2 ^ (s + 1) * 2 ^ (31 - s) := by
    rw [← Nat.pow_add, show s + 1 + (31 - s) = 32 by omega]
  rw [eA, lb_pw, Nat.mul_div_cancel _ (pw_pos J), e32, Nat.mod_mul_right_mod, Nat.mul_mod_left]
end Go.Proofs.Ytjgikfejfglllaa
