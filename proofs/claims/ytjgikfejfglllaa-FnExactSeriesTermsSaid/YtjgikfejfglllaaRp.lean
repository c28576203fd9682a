/- Plain arithmetic of the terms of roots. -/
import Derived.Below
namespace Go.Proofs.Ytjgikfejfglllaa

/-- The greatest integer whose square is at most n, up to a number of rounds. -/
def isqGo : Nat → Nat → Nat → Nat
  | 0, r, _ => r
  | f + 1, r, n => if (r + 1) * (r + 1) ≤ n then isqGo f (r + 1) n else r
def isq (n : Nat) : Nat := isqGo 1001 0 n
theorem isqGo_at (n : Nat) : ∀ (f r : Nat), r * r ≤ n → n < (r + f + 1) * (r + f + 1) → isqGo f r n * isqGo f r n ≤ n ∧ n < (isqGo f r n + 1) * (isqGo f r n + 1) := by
  intro f
  induction f with
  | zero => intro r h1 h2; exact ⟨h1, h2⟩
  | succ f ih =>
    intro r h1 h2
    unfold isqGo
    by_cases c : (r + 1) * (r + 1) ≤ n
    · rw [if_pos c]
      exact ih (r + 1) c (by rw [show r + 1 + f + 1 = r + (f + 1) + 1 by omega]; exact h2)
    · rw [if_neg c]
      exact ⟨h1, by omega⟩
theorem isq_at {n : Nat} (h : n ≤ 1000000) : isq n * isq n ≤ n ∧ n < (isq n + 1) * (isq n + 1) := isqGo_at n 1001 0 (by omega) (by omega)
theorem sq_le {a b : Nat} (h : a ≤ b) : a * a ≤ b * b := Nat.mul_le_mul h h
theorem isq_unique {n r : Nat} (h : n ≤ 1000000) (h1 : r * r ≤ n) (h2 : n < (r + 1) * (r + 1)) : r = isq n := by
  obtain ⟨g1, g2⟩ := isq_at h
  rcases Nat.lt_trichotomy r (isq n) with c | c | c
  · have := sq_le (show r + 1 ≤ isq n from c)
    omega
  · exact c
  · have := sq_le (show isq n + 1 ≤ r from c)
    omega
theorem isq_small {n : Nat} (h : n ≤ 1000000) : isq n ≤ 1000 := by
  obtain ⟨g1, _⟩ := isq_at h
  rcases Nat.lt_or_ge 1000 (isq n) with c | c
  · have := sq_le (show 1001 ≤ isq n from c)
    omega
  · exact c

/-- What holds of m, d and a at the head of each round. -/
structure RInv (n f m d a : Nat) : Prop where
  mf : m ≤ f
  d1 : 1 ≤ d
  df : d ≤ f + m
  a_eq : a = (f + m) / d
  dvd : ∃ q : Int, (n : Int) - m * m = d * q
theorem RInv.start {n f : Nat} (hf : 1 ≤ f) : RInv n f 0 1 f := ⟨by omega, by omega, by omega, by simp, ⟨n, by simp⟩⟩
theorem RInv.fits {n f m d a : Nat} (h : RInv n f m d a) : m ≤ d * a ∧ d * a ≤ f + m ∧ f + m < d * a + d ∧ a ≤ f + m := by
  have h1 := Nat.div_add_mod (f + m) d
  have h2 := Nat.mod_lt (f + m) h.d1
  rw [← h.a_eq] at h1
  have h3 := h.df
  have h4 := h.mf
  have h5 : a ≤ f + m := by rw [h.a_eq]; exact Nat.div_le_self _ _
  refine ⟨?_, by omega, by omega, h5⟩
  rcases Nat.lt_or_ge f d with c | c
  · have ha : 1 ≤ a := by
      rw [h.a_eq]
      exact Nat.div_pos h3 h.d1
    have := Nat.mul_le_mul_left d ha
    omega
  · omega
theorem RInv.step {n f m d a : Nat} (h : RInv n f m d a) (hf : f * f < n) (hn : n < (f + 1) * (f + 1)) :
    (d * a - m) * (d * a - m) ≤ n ∧ d * ((n - (d * a - m) * (d * a - m)) / d) = n - (d * a - m) * (d * a - m) ∧ RInv n f (d * a - m) ((n - (d * a - m) * (d * a - m)) / d) ((f + (d * a - m)) / ((n - (d * a - m) * (d * a - m)) / d)) := by
  obtain ⟨g1, g2, g3, g4⟩ := h.fits
  obtain ⟨q, hq⟩ := h.dvd
  have hd := h.d1
  obtain ⟨x, hx⟩ : ∃ x, x = d * a - m := ⟨_, rfl⟩
  rw [← hx]
  have hxf : x ≤ f := by omega
  have hxn : x * x < n := by
    have := sq_le hxf
    omega
  have hdiv : (d : Int) ∣ ((n - x * x : Nat) : Int) := by
    refine ⟨q + 2 * a * m - d * a * a, ?_⟩
    have e1 : ((n - x * x : Nat) : Int) = (n : Int) - (x : Int) * x := by
      rw [Int.ofNat_sub (by omega)]
      simp
    have e2 : (x : Int) = (d : Int) * a - m := by
      rw [hx, Int.ofNat_sub g1]
      simp
    rw [e1, e2]
    grind
  have hdv : d ∣ n - x * x := Int.ofNat_dvd.1 hdiv
  have hmul : d * ((n - x * x) / d) = n - x * x := Nat.mul_div_cancel' hdv
  obtain ⟨y, hy⟩ : ∃ y, y = (n - x * x) / d := ⟨_, rfl⟩
  rw [← hy] at hmul ⊢
  have hy1 : 1 ≤ y := by
    rcases Nat.eq_zero_or_pos y with c | c
    · subst c
      omega
    · exact c
  refine ⟨by omega, hmul, hxf, hy1, ?_, rfl, ⟨d, ?_⟩⟩
  · rcases Nat.lt_or_ge (f + x) y with c | c
    · exfalso
      have k1 : d * (f + x + 1) ≤ d * y := Nat.mul_le_mul_left d c
      have k2 : f + 1 - x ≤ d := by omega
      have k3 : (f + 1 - x) * (f + x + 1) ≤ d * (f + x + 1) := Nat.mul_le_mul_right _ k2
      have k4 : ((f + 1 - x : Nat) : Int) * ((f + x + 1 : Nat) : Int) = ((f : Int) + 1) * ((f : Int) + 1) - (x : Int) * x := by
        rw [Int.ofNat_sub (by omega)]
        simp
        grind
      have k5 : ((f + 1 - x) * (f + x + 1) : Nat) + x * x = (f + 1) * (f + 1) := by
        have : (((f + 1 - x) * (f + x + 1) + x * x : Nat) : Int) = (((f + 1) * (f + 1) : Nat) : Int) := by
          rw [Int.natCast_add, Int.natCast_mul, k4]
          simp
        exact Int.ofNat.inj this
      omega
    · exact c
  · have e1 : ((n - x * x : Nat) : Int) = (n : Int) - (x : Int) * x := by
      rw [Int.ofNat_sub (by omega)]
      simp
    rw [← e1, ← hmul]
    simp
    grind
/-- The period, up to 3,000 terms. -/
def rper (n f : Nat) : Nat → Nat → Nat → Nat → List Nat → Option (List Nat)
  | 0, _, _, _, _ => none
  | k + 1, m, d, a, acc =>
    if a = 2 * f then some acc
    else if acc.length = 3000 then none
    else rper n f k (d * a - m) ((n - (d * a - m) * (d * a - m)) / d) ((f + (d * a - m)) / ((n - (d * a - m) * (d * a - m)) / d)) (acc ++ [(f + (d * a - m)) / ((n - (d * a - m) * (d * a - m)) / d)])
def period (n : Nat) : Option (List Nat) := rper n (isq n) 3001 0 1 (isq n) []
end Go.Proofs.Ytjgikfejfglllaa
