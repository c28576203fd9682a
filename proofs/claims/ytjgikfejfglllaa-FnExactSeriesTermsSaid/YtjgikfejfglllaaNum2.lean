/- Plain arithmetic: products limb by limb. -/
import Derived.Test.YtjgikfejfglllaaRow
set_option linter.unusedVariables false
set_option linter.unusedSimpArgs false
namespace Go.Proofs.Ytjgikfejfglllaa
open Go.RowKit


theorem pw_add (a b : Nat) : pw (a + b) = pw a * pw b := by
  unfold pw
  rw [Nat.mul_add, Nat.pow_add]
/-- The carry of row i of a product below limb k. -/
def mc (P a N i k : Nat) : Nat := (P % pw (i + k) + pw i * (a * (N % pw k))) / pw (i + k)
theorem mc_zero (P a N i : Nat) : mc P a N i 0 = 0 := by
  unfold mc
  rw [pw_zero, Nat.mod_one, Nat.mul_zero, Nat.mul_zero, Nat.add_zero, Nat.add_zero]
  exact Nat.div_eq_of_lt (Nat.mod_lt _ (pw_pos i))
theorem mc_num (P a N i k : Nat) : P % pw (i + (k + 1)) + pw i * (a * (N % pw (k + 1))) = pw (i + k) * (a * lb N k + lb P (i + k)) + (P % pw (i + k) + pw i * (a * (N % pw k))) := by
  rw [show i + (k + 1) = i + k + 1 by omega, mod_pw_succ, mod_pw_succ, pw_add i k]
  generalize pw i = x
  generalize pw k = y
  generalize lb N k = n
  generalize lb P (i + k) = p
  generalize N % y = r
  generalize P % (x * y) = s
  have e1 : x * (a * (r + y * n)) = x * (a * r) + x * y * (a * n) := by
    rw [Nat.mul_add, Nat.mul_add]
    congr 1
    rw [Nat.mul_left_comm a y n, ← Nat.mul_assoc]
  have e2 : x * y * (a * n + p) = x * y * (a * n) + x * y * p := Nat.mul_add _ _ _
  omega
theorem mc_succ (P a N i k : Nat) : mc P a N i (k + 1) = (a * lb N k + lb P (i + k) + mc P a N i k) / 4294967296 := by
  have h := pw_pos (i + k)
  have e : mc P a N i (k + 1) = (P % pw (i + (k + 1)) + pw i * (a * (N % pw (k + 1)))) / pw (i + (k + 1)) := rfl
  rw [e, mc_num, show i + (k + 1) = i + k + 1 by omega, pw_succ, ← Nat.div_div_eq_div_mul, Nat.mul_add_div h]
  rfl
theorem mc_le (P a N i k : Nat) (ha : a ≤ 4294967295) : mc P a N i k ≤ 4294967295 := by
  induction k with
  | zero => rw [mc_zero]; omega
  | succ k ih =>
    rw [mc_succ]
    have h1 := lb_le N k
    have h2 := lb_le P (i + k)
    have h3 : a * lb N k ≤ 4294967295 * 4294967295 := Nat.mul_le_mul ha h1
    omega
/-- What row i adds. -/
theorem lb_row (P a N i k : Nat) (hk : k < 6) : lb (P + pw i * (a * N)) (i + k) = (a * lb N k + lb P (i + k) + mc P a N i k) % 4294967296 := by
  have h := pw_pos (i + k)
  have e1 : (P + pw i * (a * N)) / pw (i + k) % 4294967296 = ((P + pw i * (a * N)) % pw (i + k + 1)) / pw (i + k) := by
    rw [mod_pw_succ, Nat.add_comm ((P + pw i * (a * N)) % pw (i + k)) _, Nat.mul_add_div h, Nat.div_eq_of_lt (Nat.mod_lt _ h), Nat.add_zero]
    rfl
  have e2 : (P + pw i * (a * N)) % pw (i + k + 1) = (P % pw (i + (k + 1)) + pw i * (a * (N % pw (k + 1)))) % pw (i + k + 1) := by
    have q : pw (i + k + 1) = pw i * pw (k + 1) := by rw [show i + k + 1 = i + (k + 1) by omega, pw_add]
    have e3 : pw i * (a * (N % pw (k + 1))) % pw (i + k + 1) = pw i * (a * N) % pw (i + k + 1) := by
      rw [q, Nat.mul_mod_mul_left, Nat.mul_mod_mul_left, Nat.mul_mod a (N % pw (k + 1)) (pw (k + 1)), Nat.mod_mod, ← Nat.mul_mod]
    calc (P + pw i * (a * N)) % pw (i + k + 1) = (P % pw (i + k + 1) + pw i * (a * N) % pw (i + k + 1)) % pw (i + k + 1) := Nat.add_mod ..
      _ = (P % pw (i + k + 1) + pw i * (a * (N % pw (k + 1))) % pw (i + k + 1)) % pw (i + k + 1) := by rw [e3]
      _ = (P % pw (i + (k + 1)) + pw i * (a * (N % pw (k + 1)))) % pw (i + k + 1) := by rw [Nat.add_mod_mod]; rfl
  rw [lb_pw, e1, e2, mc_num, pw_succ, Nat.mod_mul_right_div_self, Nat.mul_add_div h]
  rfl
theorem lb_low (P x i : Nat) {j : Nat} (hj : j < i) : lb (P + pw i * x) j = lb P j := by
  rw [← lb_mod (P + pw i * x) hj, Nat.add_mul_mod_self_left, lb_mod P hj]
theorem mod_row (M N i : Nat) : M % pw i * N + pw i * (lb M i * N) = M % pw (i + 1) * N := by
  rw [mod_pw_succ, Nat.add_mul, Nat.mul_assoc]
theorem row_lt (M N i : Nat) (hN : N < pw 6) : M % pw i * N < pw (i + 6) := by
  rw [pw_add]
  have h1 := Nat.mod_lt M (pw_pos i)
  rcases Nat.eq_zero_or_pos (M % pw i) with h | h
  · rw [h, Nat.zero_mul]
    exact Nat.mul_pos (pw_pos _) (pw_pos _)
  · calc M % pw i * N < M % pw i * pw 6 := Nat.mul_lt_mul_of_pos_left hN h
      _ ≤ pw i * pw 6 := Nat.mul_le_mul_right _ (Nat.le_of_lt h1)
/-- The last carry of a row is the limb behind it. -/
theorem mc_last (M N i : Nat) (hN : N < pw 6) : lb (M % pw (i + 1) * N) (i + 6) = mc (M % pw i * N) (lb M i) N i 6 := by
  have h := row_lt M N i hN
  have h2 := row_lt M N (i + 1) hN
  unfold mc
  rw [Nat.mod_eq_of_lt hN, Nat.mod_eq_of_lt h, mod_row, lb_pw]
  apply Nat.mod_eq_of_lt
  rw [Nat.div_lt_iff_lt_mul (pw_pos _)]
  rw [show i + 1 + 6 = i + 6 + 1 by omega, pw_succ (i + 6), Nat.mul_comm (pw (i + 6))] at h2
  exact h2
theorem lt_of_high (X n d : Nat) (h : X < pw (n + d)) (hz : ∀ t, t < d → lb X (n + t) = 0) : X < pw n := by
  induction d with
  | zero => exact h
  | succ d ih =>
    refine ih ?_ fun t ht => hz t (by omega)
    have e := div_pw X (n + d)
    rw [hz d (by omega), Nat.div_eq_of_lt (show X < pw (n + d + 1) from h)] at e
    have := Nat.div_add_mod X (pw (n + d))
    rw [e] at this
    have h2 := Nat.mod_lt X (pw_pos (n + d))
    omega
theorem mul_lt_pw {M N : Nat} (hM : M < pw 6) (hN : N < pw 6) : M * N < pw 12 := by
  have h := row_lt M N 6 hN
  rwa [Nat.mod_eq_of_lt hM] at h
def c12 (f : Nat → Nat) : Array Value := #[.int .u32 (f 0), .int .u32 (f 1), .int .u32 (f 2), .int .u32 (f 3), .int .u32 (f 4), .int .u32 (f 5), .int .u32 (f 6), .int .u32 (f 7), .int .u32 (f 8), .int .u32 (f 9), .int .u32 (f 10), .int .u32 (f 11)]
theorem c12_at (f : Nat → Nat) (k : Nat) (h : k < 12) : (c12 f)[k]? = some (.int .u32 (f k)) := by
  match k, h with
  | 0, _ | 1, _ | 2, _ | 3, _ | 4, _ | 5, _ | 6, _ | 7, _ | 8, _ | 9, _ | 10, _ | 11, _ => rfl
theorem c12_set (f : Nat → Nat) (k v : Nat) (h : k < 12) : (c12 f).setIfInBounds k (.int .u32 v) = c12 (fun j => if j = k then v else f j) := by
  match k, h with
  | 0, _ | 1, _ | 2, _ | 3, _ | 4, _ | 5, _ | 6, _ | 7, _ | 8, _ | 9, _ | 10, _ | 11, _ => rfl
theorem c12_congr {f f' : Nat → Nat} (h : ∀ k, k < 12 → f k = f' k) : c12 f = c12 f' := by
  simp only [c12, h 0 (by omega), h 1 (by omega), h 2 (by omega), h 3 (by omega), h 4 (by omega), h 5 (by omega), h 6 (by omega), h 7 (by omega), h 8 (by omega), h 9 (by omega), h 10 (by omega), h 11 (by omega)]
theorem Blk.at12 {w : World} {g t : Nat} {f : Nat → Nat} (h : Blk w g t (c12 f)) {k : Nat} (hk : k < 12) : w.cell? ⟨g, k, none⟩ = some (.int .u32 (f k)) := by rw [h.cell, c12_at f k hk]
theorem Blk.step12 {w : World} {g t : Nat} {f f' : Nat → Nat} {k v : Nat} (h : Blk w g t (c12 f)) (hk : k < 12) (hv : f' k = v) (ho : ∀ j, j < 12 → j ≠ k → f' j = f j) : Blk (w.setCell ⟨g, k, none⟩ (.int .u32 v)) g t (c12 f') := by
  have e : (c12 f).setIfInBounds k (.int .u32 v) = c12 f' := by
    rw [c12_set f k v hk]
    refine c12_congr fun j hj => ?_
    by_cases e : j = k
    · rw [if_pos e, e, hv]
    · rw [if_neg e, ho j hj e]
  rw [← e]
  exact h.set_ k _
/-- What uint64 makes of a step. -/
theorem u64_step (a b o c : Nat) (ha : a ≤ 4294967295) (hb : b ≤ 4294967295) (ho : o ≤ 4294967295) (hc : c ≤ 4294967295) :
    IntKind.u64.wrap ((c : Int) + IntKind.u64.wrap (IntKind.u64.wrap ((a : Int) * b) + o)) = ((a * b + o + c : Nat) : Int) := by
  have e : ∀ x : Int, IntKind.u64.wrap x = x % 18446744073709551616 := fun x => by simp [IntKind.wrap, IntKind.bits, IntKind.signed]
  have h3 : a * b ≤ 4294967295 * 4294967295 := Nat.mul_le_mul ha hb
  rw [e, e, e, show (a : Int) * b = ((a * b : Nat) : Int) by simp]
  generalize a * b = p at *
  omega
end Go.Proofs.Ytjgikfejfglllaa
