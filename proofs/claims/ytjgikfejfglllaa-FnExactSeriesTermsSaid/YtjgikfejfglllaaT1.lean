/- Plain laws of the division by a small number. -/
import Derived.Test.YtjgikfejfglllaaNum
set_option linter.unusedVariables false
set_option linter.unusedSimpArgs false
namespace Go.Proofs.Ytjgikfejfglllaa
open Go.RowKit


/-- The rest behind the limbs from k on. -/
def rst (M d k : Nat) : Nat := M / pw k % d
theorem rst_lt (M d k : Nat) (hd : 0 < d) : rst M d k < d := Nat.mod_lt _ hd
theorem top_split (M k : Nat) : M / pw k = M / pw (k + 1) * 4294967296 + lb M k := by
  have h : M / pw (k + 1) = M / pw k / 4294967296 := by rw [pw_succ, Nat.div_div_eq_div_mul]
  have h2 := Nat.div_add_mod (M / pw k) 4294967296
  rw [h]
  unfold lb
  unfold pw at *
  omega
/-- One step of the long division. -/
theorem rst_step (M d k : Nat) (hd : 0 < d) : (rst M d (k + 1) * 4294967296 + lb M k) % d = rst M d k := by
  unfold rst
  rw [top_split M k, Nat.add_mod, Nat.mul_mod, Nat.mod_mod, ← Nat.mul_mod, ← Nat.add_mod]
theorem quo_step (M d k : Nat) (hd : 0 < d) : (rst M d (k + 1) * 4294967296 + lb M k) / d = M / pw k / d - (M / pw (k + 1) / d) * 4294967296 := by
  unfold rst
  have h := Nat.div_add_mod (M / pw (k + 1)) d
  obtain ⟨q, hq⟩ : ∃ q, q = M / pw (k + 1) / d := ⟨_, rfl⟩
  obtain ⟨s, hs⟩ : ∃ s, s = M / pw (k + 1) % d := ⟨_, rfl⟩
  rw [← hq, ← hs] at h
  rw [top_split M k, ← hq, ← hs, ← h]
  rw [show (d * q + s) * 4294967296 + lb M k = (s * 4294967296 + lb M k) + d * (q * 4294967296) by grind, Nat.add_mul_div_left _ _ hd]
  exact (Nat.add_sub_cancel _ _).symm
/-- Limb k of the quotient. -/
theorem quo_limb (M d k : Nat) (hd : 0 < d) (hd2 : d < 4294967296) : (rst M d (k + 1) * 4294967296 + lb M k) / d = lb (M / d) k := by
  have h1 := rst_lt M d (k + 1) hd
  have h2 := lb_lt M k
  have hlt : (rst M d (k + 1) * 4294967296 + lb M k) / d < 4294967296 := by
    rw [Nat.div_lt_iff_lt_mul hd]
    have : (rst M d (k + 1) + 1) * 4294967296 ≤ d * 4294967296 := Nat.mul_le_mul_right _ h1
    rw [Nat.mul_comm 4294967296 d]
    omega
  have e : M / d / pw k = M / pw k / d := by rw [Nat.div_div_eq_div_mul, Nat.div_div_eq_div_mul, Nat.mul_comm]
  have e2 : M / pw (k + 1) / d = M / pw k / d / 4294967296 := by
    rw [pw_succ, Nat.div_div_eq_div_mul, Nat.div_div_eq_div_mul, Nat.div_div_eq_div_mul]
    congr 1
    grind
  rw [quo_step M d k hd, e2]
  unfold lb
  unfold pw at e
  rw [e]
  unfold pw
  have := Nat.div_add_mod (M / 2 ^ (32 * k) / d) 4294967296
  omega
end Go.Proofs.Ytjgikfejfglllaa
