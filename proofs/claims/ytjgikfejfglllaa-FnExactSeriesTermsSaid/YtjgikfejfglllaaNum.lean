/- Plain arithmetic on limbs: sums, differences, products and quotients limb by limb. -/
import Derived.Test.YtjgikfejfglllaaBase
namespace Go.Proofs.Ytjgikfejfglllaa

/-- 2 to the power 32 k. -/
def pw (k : Nat) : Nat := 2 ^ (32 * k)
theorem pw_zero : pw 0 = 1 := rfl
theorem pw_succ (k : Nat) : pw (k + 1) = pw k * 4294967296 := by
  unfold pw
  rw [Nat.mul_add, Nat.pow_add]
theorem pw_pos (k : Nat) : 0 < pw k := Nat.two_pow_pos _
theorem lb_pw (M k : Nat) : lb M k = M / pw k % 4294967296 := rfl
theorem pw_six : pw 6 = 2 ^ 192 := rfl
theorem mod_pw_succ (M k : Nat) : M % pw (k + 1) = M % pw k + pw k * lb M k := by
  rw [pw_succ, Nat.mod_mul, lb_pw]

/-- The carry of a sum below limb k. -/
def cy (M N k : Nat) : Nat := (M % pw k + N % pw k) / pw k
theorem cy_zero (M N : Nat) : cy M N 0 = 0 := by simp [cy, pw_zero, Nat.mod_one]
theorem cy_le (M N k : Nat) : cy M N k ≤ 1 := by
  have h := pw_pos k
  have h1 := Nat.mod_lt M h
  have h2 := Nat.mod_lt N h
  unfold cy
  have : (M % pw k + N % pw k) / pw k < 2 := (Nat.div_lt_iff_lt_mul h).2 (by omega)
  omega
theorem cy_split (M N k : Nat) : M % pw k + N % pw k = pw k * cy M N k + (M + N) % pw k := by
  unfold cy
  have h := Nat.div_add_mod (M % pw k + N % pw k) (pw k)
  rw [Nat.mod_add_mod, Nat.add_mod_mod] at h
  omega
theorem div_sum (M N k : Nat) : (M + N) / pw k = M / pw k + N / pw k + cy M N k := by
  have h := pw_pos k
  have h1 := Nat.div_add_mod M (pw k)
  have h2 := Nat.div_add_mod N (pw k)
  have h3 := cy_split M N k
  have e : M + N = pw k * (M / pw k + N / pw k + cy M N k) + (M + N) % pw k := by
    rw [Nat.mul_add, Nat.mul_add]
    omega
  have h4 := Nat.mod_lt (M + N) h
  calc (M + N) / pw k = (pw k * (M / pw k + N / pw k + cy M N k) + (M + N) % pw k) / pw k := by rw [← e]
    _ = M / pw k + N / pw k + cy M N k := by
      rw [Nat.mul_add_div h, Nat.div_eq_of_lt h4, Nat.add_zero]
theorem lb_sum (M N k : Nat) : lb (M + N) k = (cy M N k + (lb M k + lb N k)) % 4294967296 := by
  rw [lb_pw, div_sum, lb_pw, lb_pw]
  omega
theorem cy_succ (M N k : Nat) : cy M N (k + 1) = (cy M N k + (lb M k + lb N k)) / 4294967296 := by
  have h := pw_pos k
  have h3 := cy_split M N k
  have h4 := Nat.mod_lt (M + N) h
  have e : M % pw (k + 1) + N % pw (k + 1) = pw k * (cy M N k + (lb M k + lb N k)) + (M + N) % pw k := by
    rw [mod_pw_succ, mod_pw_succ, Nat.mul_add, Nat.mul_add]
    omega
  have e2 : cy M N (k + 1) = (M % pw (k + 1) + N % pw (k + 1)) / pw (k + 1) := rfl
  rw [e2, e, pw_succ, ← Nat.div_div_eq_div_mul, Nat.mul_add_div h, Nat.div_eq_of_lt h4, Nat.add_zero]
/-- A size below 2 to the power 192 is its limbs. -/
theorem mod_of_lb {M N : Nat} (k : Nat) (h : ∀ j, j < k → lb M j = lb N j) : M % pw k = N % pw k := by
  induction k with
  | zero => simp [pw_zero, Nat.mod_one]
  | succ k ih => rw [mod_pw_succ, mod_pw_succ, ih fun j hj => h j (by omega), h k (by omega)]
theorem eq_of_lb {M N : Nat} (hM : M < pw 6) (hN : N < pw 6) (h : ∀ j, j < 6 → lb M j = lb N j) : M = N := by
  have := mod_of_lb 6 h
  rwa [Nat.mod_eq_of_lt hM, Nat.mod_eq_of_lt hN] at this
theorem lb_zero (k : Nat) : lb 0 k = 0 := by simp [lb]
theorem lb_mod (M : Nat) {k n : Nat} (h : k < n) : lb (M % pw n) k = lb M k := by
  obtain ⟨d, rfl⟩ : ∃ d, n = k + 1 + d := ⟨n - (k + 1), by omega⟩
  have e : pw (k + 1 + d) = pw k * (4294967296 * pw d) := by
    unfold pw
    rw [show 32 * (k + 1 + d) = 32 * k + (32 + 32 * d) by omega, Nat.pow_add, Nat.pow_add]
  rw [lb_pw, lb_pw, e, Nat.mod_mul_right_div_self, Nat.mod_mul_right_mod]
theorem lb_ge {M k : Nat} (h : M < pw k) : lb M k = 0 := by rw [lb_pw, Nat.div_eq_of_lt h]
theorem pw_mono {a b : Nat} (h : a ≤ b) : pw a ≤ pw b := Nat.pow_le_pow_right (by omega) (by omega)
theorem lb_small {M : Nat} (h : M < 4294967296) : lb M 0 = M ∧ ∀ k, 0 < k → lb M k = 0 := by
  refine ⟨by rw [lb_pw, pw_zero]; omega, fun k hk => lb_ge (Nat.lt_of_lt_of_le h ?_)⟩
  have := pw_mono (a := 1) (b := k) hk
  simpa [pw] using this

/-- The borrow of a difference below limb k. -/
def bw (M N k : Nat) : Nat := if M % pw k < N % pw k then 1 else 0
theorem bw_zero (M N : Nat) : bw M N 0 = 0 := by simp [bw, pw_zero, Nat.mod_one]
theorem bw_le (M N k : Nat) : bw M N k ≤ 1 := by unfold bw; split <;> omega
theorem bw_succ (M N k : Nat) : bw M N (k + 1) = if lb M k < lb N k + bw M N k then 1 else 0 := by
  have h := pw_pos k
  have h1 := Nat.mod_lt M h
  have h2 := Nat.mod_lt N h
  have key : (M % pw (k + 1) < N % pw (k + 1)) ↔ (lb M k < lb N k + bw M N k) := by
    rw [mod_pw_succ, mod_pw_succ]
    unfold bw
    rcases Nat.lt_trichotomy (lb M k) (lb N k) with c | c | c
    · have : pw k * lb M k + pw k ≤ pw k * lb N k := by rw [← Nat.mul_succ]; exact Nat.mul_le_mul_left _ c
      constructor
      · intro _; omega
      · intro _; omega
    · rw [c]
      constructor
      · intro e; rw [if_pos (by omega)]; omega
      · intro e
        split at e <;> omega
    · have : pw k * lb N k + pw k ≤ pw k * lb M k := by rw [← Nat.mul_succ]; exact Nat.mul_le_mul_left _ c
      constructor
      · intro _; omega
      · intro e
        split at e <;> omega
  show (if M % pw (k + 1) < N % pw (k + 1) then 1 else 0) = _
  by_cases c : M % pw (k + 1) < N % pw (k + 1)
  · rw [if_pos c, if_pos (key.1 c)]
  · rw [if_neg c, if_neg fun e => c (key.2 e)]
theorem div_diff {M N : Nat} (hle : N ≤ M) (k : Nat) : (M - N) / pw k + N / pw k + bw M N k = M / pw k := by
  have h := pw_pos k
  have h1 := Nat.mod_lt M h
  have h2 := Nat.mod_lt N h
  have e1 := Nat.div_add_mod M (pw k)
  have e2 := Nat.div_add_mod N (pw k)
  have hd : N / pw k ≤ M / pw k := Nat.div_le_div_right hle
  unfold bw
  by_cases c : M % pw k < N % pw k
  · rw [if_pos c]
    have hlt : N / pw k < M / pw k := by
      rcases Nat.lt_or_ge (N / pw k) (M / pw k) with g | g
      · exact g
      · have : M / pw k = N / pw k := by omega
        rw [this] at e1
        omega
    obtain ⟨q, hq⟩ : ∃ q, M / pw k = N / pw k + 1 + q := ⟨M / pw k - (N / pw k + 1), by omega⟩
    rw [hq] at e1 ⊢
    have e3 : M - N = pw k * q + (pw k + M % pw k - N % pw k) := by
      rw [Nat.mul_add, Nat.mul_add, Nat.mul_one] at e1
      omega
    rw [e3, Nat.mul_add_div h, Nat.div_eq_of_lt (by omega)]
    omega
  · rw [if_neg c]
    obtain ⟨q, hq⟩ : ∃ q, M / pw k = N / pw k + q := ⟨M / pw k - N / pw k, by omega⟩
    rw [hq] at e1 ⊢
    have e3 : M - N = pw k * q + (M % pw k - N % pw k) := by
      rw [Nat.mul_add] at e1
      omega
    rw [e3, Nat.mul_add_div h, Nat.div_eq_of_lt (by omega)]
    omega
theorem lb_diff {M N : Nat} (hle : N ≤ M) (k : Nat) : lb (M - N) k = (lb M k + 4294967296 - lb N k - bw M N k) % 4294967296 := by
  have h := div_diff hle k
  have hb := bw_le M N k
  rw [lb_pw, lb_pw, lb_pw]
  generalize (M - N) / pw k = x at *
  generalize M / pw k = y at *
  generalize N / pw k = z at *
  omega
/-- What uint64's subtraction makes of it. -/
theorem u64_diff (a b c : Nat) (ha : a ≤ 4294967295) (hb : b ≤ 4294967295) (hc : c ≤ 1) :
    IntKind.u64.wrap (IntKind.u64.wrap ((a : Int) - b) - c) / 9223372036854775808 = ((if a < b + c then 1 else 0 : Nat) : Int) ∧
    IntKind.u64.wrap (IntKind.u64.wrap ((a : Int) - b) - c) % 4294967296 = (((a + 4294967296 - b - c) % 4294967296 : Nat) : Int) := by
  have e : ∀ x : Int, IntKind.u64.wrap x = x % 18446744073709551616 := fun x => by simp [IntKind.wrap, IntKind.bits, IntKind.signed]
  rw [e, e]
  constructor
  · split <;> omega
  · omega
/-- Sizes are compared from their highest limb on. -/
theorem div_pw (M k : Nat) : M / pw k = M / pw (k + 1) * 4294967296 + lb M k := by
  have h : M / pw (k + 1) = M / pw k / 4294967296 := by rw [pw_succ, Nat.div_div_eq_div_mul]
  rw [h, lb_pw]
  omega
theorem div_of_lb {M N : Nat} (hM : M < pw 6) (hN : N < pw 6) (d : Nat) : ∀ k, k + d = 6 → (∀ j, k ≤ j → j < 6 → lb M j = lb N j) → M / pw k = N / pw k := by
  induction d with
  | zero =>
    intro k hk _
    obtain rfl : k = 6 := by omega
    rw [Nat.div_eq_of_lt hM, Nat.div_eq_of_lt hN]
  | succ d ih =>
    intro k hk h
    rw [div_pw M, div_pw N, ih (k + 1) (by omega) fun j hj => h j (by omega), h k (Nat.le_refl _) (by omega)]
theorem lt_of_lb {M N : Nat} (hM : M < pw 6) (hN : N < pw 6) {k : Nat} (hk : k < 6) (h : ∀ j, k < j → j < 6 → lb M j = lb N j) (hlt : lb M k < lb N k) : M < N := by
  have e := div_of_lb hM hN (5 - k) (k + 1) (by omega) fun j hj => h j (by omega)
  rcases Nat.lt_or_ge M N with g | g
  · exact g
  · have := Nat.div_le_div_right (c := pw k) g
    rw [div_pw M, div_pw N, e] at this
    omega
/-- -1, 0 or 1. -/
def cmp (M N : Nat) : Int := if M < N then -1 else if N < M then 1 else 0
theorem cmp_self (M : Nat) : cmp M M = 0 := by simp [cmp]
theorem cmp_lt {M N : Nat} (h : M < N) : cmp M N = -1 := by simp [cmp, h]
theorem cmp_gt {M N : Nat} (h : N < M) : cmp M N = 1 := by simp [cmp, h, show ¬ M < N by omega]
theorem cmp_range (M N : Nat) : -1 ≤ cmp M N ∧ cmp M N ≤ 1 := by unfold cmp; split <;> (try split) <;> omega

/-- The limbs of a number below 2 to the power 64. -/
theorem lb_word {M : Nat} (h : M < 18446744073709551616) : lb M 0 = M % 4294967296 ∧ lb M 1 = M / 4294967296 % 4294967296 ∧ lb M 2 = 0 ∧ lb M 3 = 0 ∧ lb M 4 = 0 ∧ lb M 5 = 0 := by
  have g : ∀ k, 2 ≤ k → lb M k = 0 := fun k hk => lb_ge (Nat.lt_of_lt_of_le h (by
    have := pw_mono hk
    simpa [pw] using this))
  refine ⟨by rw [lb_pw, pw_zero, Nat.div_one], by rw [lb_pw]; rfl, g 2 (by omega), g 3 (by omega), g 4 (by omega), g 5 (by omega)⟩
theorem word_pw {M : Nat} (h : M < 18446744073709551616) : M < pw 6 := Nat.lt_of_lt_of_le h (by simp [pw])
end Go.Proofs.Ytjgikfejfglllaa
