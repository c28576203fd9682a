/- How many terms a series has. -/
import Derived.Test.YtjgikfejfglllaaHt2
import Derived.Test.YtjgikfejfglllaaCn
import Derived.Test.YtjgikfejfglllaaW6
set_option linter.unusedVariables false
set_option linter.unusedSimpArgs false
namespace Go.Proofs.Ytjgikfejfglllaa
open Go.RowKit


/-- How many terms of a series are not 0. -/
def scn (a b : Nat) : Nat → Nat → Nat
  | 0, _ => 0
  | f + 1, u => if u = 0 then 0 else scn a b f (u * a / b) + 1
theorem scn_half {a b u : Nat} (h : 2 * a ≤ b) (hb : 0 < b) : u * a / b ≤ u / 2 := by
  rw [Nat.le_div_iff_mul_le (by omega)]
  have h1 := Nat.div_mul_le_self (u * a) b
  have h2 : u * a * 2 ≤ u * b := by
    rw [Nat.mul_assoc, Nat.mul_comm a 2]
    exact Nat.mul_le_mul_left u h
  have h3 : u * a / b * 2 * b ≤ u * b := by
    rw [Nat.mul_right_comm]
    omega
  exact Nat.le_of_mul_le_mul_right h3 hb
theorem scn_enough {a b : Nat} (h : 2 * a ≤ b) (hb : 0 < b) : ∀ (f u : Nat), nb u ≤ f → scn a b (f + 1) u = scn a b f u := by
  intro f
  induction f with
  | zero =>
    intro u hu
    have : u = 0 := by
      have := nb_le.1 hu
      omega
    subst this
    rfl
  | succ f ih =>
    intro u hu
    by_cases h0 : u = 0
    · subst h0; rfl
    · have e := ih (u * a / b) (by
        have h1 := nb_half (show 0 < u by omega)
        have h2 := scn_half (u := u) h hb
        have h3 : nb (u * a / b) ≤ nb (u / 2) := nb_le.2 (Nat.lt_of_le_of_lt h2 (nb_lt _))
        omega)
      rw [scn, if_neg h0, e]
      conv => rhs; rw [scn, if_neg h0]
theorem scn_any {a b : Nat} (h : 2 * a ≤ b) (hb : 0 < b) (u : Nat) : ∀ d, scn a b (nb u + d) u = scn a b (nb u) u := by
  intro d
  induction d with
  | zero => rfl
  | succ d ih => rw [← Nat.add_assoc, scn_enough h hb _ u (by omega), ih]
def stn (a b u : Nat) : Nat := scn a b (nb u) u
theorem stn_zero (a b : Nat) : stn a b 0 = 0 := rfl
theorem stn_step {a b u : Nat} (h : 2 * a ≤ b) (hb : 0 < b) (hu : 0 < u) : stn a b u = stn a b (u * a / b) + 1 := by
  have h1 := nb_half hu
  have h2 := scn_half (u := u) h hb
  have h3 : nb (u * a / b) ≤ nb (u / 2) := nb_le.2 (Nat.lt_of_le_of_lt h2 (nb_lt _))
  obtain ⟨d, hd⟩ : ∃ d, nb (u / 2) = nb (u * a / b) + d := ⟨nb (u / 2) - nb (u * a / b), by omega⟩
  unfold stn
  rw [h1, scn, if_neg (by omega), hd, scn_any h hb]
theorem scn_le (a b : Nat) : ∀ f u, scn a b f u ≤ f
  | 0, _ => Nat.le_refl _
  | f + 1, u => by
    rw [scn]
    split
    · omega
    · have := scn_le a b f (u * a / b)
      omega
theorem stn_le (a b u : Nat) : stn a b u ≤ nb u := scn_le a b _ u
theorem stn_places (a b : Nat) {n : Nat} (hn : n ≤ 64) : stn a b (2 ^ (n + 10)) ≤ 75 := by
  have := stn_le a b (2 ^ (n + 10))
  have h2 : nb (2 ^ (n + 10)) ≤ 75 := nb_le.2 (Nat.pow_lt_pow_right (by omega) (by omega))
  omega
/-- The sum of any two wide integers is some wide integer. -/
theorem refAdd_ex (n1 n2 : Bool) (M N : Nat) (hM : M < pw 6) (hN : N < pw 6) : ∃ (n3 : Bool) (S : Nat) (c : Int), S < pw 6 ∧ ∀ w, Calls Try.prog 72 #[wdv n1 M, wdv n2 N] w fun e w' => e = .returned (.tuple #[wdv n3 S, .int .i64 c]) ∧ Below w.heap.size w w' := by
  by_cases h : n1 = n2
  · subst h
    have hc : cy M N 6 ≠ 0 ↔ ¬ M + N < pw 6 := decide_eq_decide.1 (cy_six hM hN)
    by_cases ho : M + N < pw 6
    · exact ⟨_, _, _, ho, fun w => refAdd_same n1 M N hM hN (Classical.byContradiction fun e => hc.1 e ho) ho w⟩
    · exact ⟨_, _, _, pw_pos 6, fun w => refAdd_over n1 M N hM hN (hc.2 ho) w⟩
  · obtain rfl : n2 = !n1 := by cases n1 <;> cases n2 <;> simp_all
    by_cases hl : N ≤ M
    · exact ⟨_, _, _, by omega, fun w => refAdd_ge n1 M N hM hN hl w⟩
    · exact ⟨_, _, _, by omega, fun w => refAdd_lt n1 M N hM hN (by omega) w⟩
end Go.Proofs.Ytjgikfejfglllaa
