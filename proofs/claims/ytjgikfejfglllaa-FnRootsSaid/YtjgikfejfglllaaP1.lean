/- What the law of roots asks holds of every number below 1,024. -/
import Derived.Test.YtjgikfejfglllaaCn
set_option linter.unusedVariables false
set_option linter.unusedSimpArgs false
namespace Go.Proofs.Ytjgikfejfglllaa
open Go.RowKit


/-- The convergent behind a list of terms. -/
def crunL : List Nat → Nat → Nat → Nat → Nat → Option (Nat × Nat)
  | [], p, q, _, _ => some (p, q)
  | a :: r, p, q, p0, q0 => if cfit a p q p0 q0 then crunL r (a * p + p0) (a * q + q0) p q else none
theorem crun_list (f : Nat) (l : List Nat) : ∀ (n i p q p0 q0 : Nat) (r : List Nat), r.length = n → (∀ j, j < n → r[j]? = some (rterm f l (i + j))) → crun f l n i p q p0 q0 = crunL r p q p0 q0 := by
  intro n
  induction n with
  | zero =>
    intro i p q p0 q0 r hr _
    obtain rfl := List.eq_nil_of_length_eq_zero hr
    rfl
  | succ n ih =>
    intro i p q p0 q0 r hr h
    cases r with
    | nil => cases hr
    | cons a r =>
      have h0 := h 0 (by omega)
      simp only [List.getElem?_cons_zero, Nat.add_zero, Option.some.injEq] at h0
      rw [crun, crunL, ← h0]
      split
      · refine ih (i + 1) _ _ _ _ r (by simpa using hr) fun j hj => ?_
        have := h (j + 1) (by omega)
        rw [List.getElem?_cons_succ] at this
        rw [this, show i + 1 + j = i + (j + 1) by omega]
      · rfl
theorem rterm_two (f : Nat) (l : List Nat) (j : Nat) (hj : j < 2 * l.length + 1) : (f :: (l ++ l))[j]? = some (rterm f l j) := by
  unfold rterm
  cases j with
  | zero => rfl
  | succ j =>
    rw [if_neg (by omega), List.getElem?_cons_succ, show j + 1 - 1 = j by omega]
    rcases Nat.lt_or_ge j l.length with c | c
    · rw [List.getElem?_append_left c, Nat.mod_eq_of_lt c, List.getD_eq_getElem?_getD, List.getElem?_eq_getElem c]
      rfl
    · have e : j % l.length = j - l.length := by
        rw [Nat.mod_eq_sub_mod c, Nat.mod_eq_of_lt (by omega)]
      rw [List.getElem?_append_right c, e, List.getD_eq_getElem?_getD, List.getElem?_eq_getElem (by omega)]
      rfl
theorem crun_two (f : Nat) (l : List Nat) (n p q p0 q0 : Nat) (h : n ≤ 2 * l.length + 1) : crun f l n 0 p q p0 q0 = crunL ((f :: (l ++ l)).take n) p q p0 q0 := by
  refine crun_list f l n 0 p q p0 q0 _ (by simp; omega) fun j hj => ?_
  rw [List.getElem?_take, if_pos hj, rterm_two f l j (by omega), Nat.zero_add]
/-- How many terms the unit takes. -/
def unitN (l : List Nat) : Nat := if l.length % 2 = 1 then 2 * l.length - 1 else l.length - 1
/-- What the law asks of a unit. -/
def pellB (n : Nat) : Option (Nat × Nat) → Bool
  | none => true
  | some (x, y) => !decide (x * x < pw 6) || !decide (y * y < pw 6) || !decide (n * (y * y) < pw 6) || (decide (x * x = n * (y * y) + 1) && decide (0 < n * (y * y)))
/-- What the law asks of a root. -/
def rootChk (n : Nat) : Bool :=
  decide (isq n * isq n = n) || match period n with
  | none => false
  | some l => !l.isEmpty && decide (l.getD (l.length - 1) 0 = 2 * isq n) && decide (l.take (l.length - 1) = (l.take (l.length - 1)).reverse) && pellB n (crunL ((isq n :: (l ++ l)).take (unitN l + 1)) 1 0 0 1)
theorem chk0 : (List.range 128).all (fun i => rootChk (0 + i)) = true := by kernel_rfl
theorem chk1 : (List.range 128).all (fun i => rootChk (128 + i)) = true := by kernel_rfl
theorem chk2 : (List.range 128).all (fun i => rootChk (256 + i)) = true := by kernel_rfl
theorem chk3 : (List.range 128).all (fun i => rootChk (384 + i)) = true := by kernel_rfl
theorem chk4 : (List.range 128).all (fun i => rootChk (512 + i)) = true := by kernel_rfl
theorem chk5 : (List.range 128).all (fun i => rootChk (640 + i)) = true := by kernel_rfl
theorem chk6 : (List.range 128).all (fun i => rootChk (768 + i)) = true := by kernel_rfl
theorem chk7 : (List.range 128).all (fun i => rootChk (896 + i)) = true := by kernel_rfl
theorem rootChk_all (n : Nat) (h : n < 1024) : rootChk n = true := by
  by_cases h0 : n < 128
  · have := (List.all_eq_true.1 chk0) (n - 0) (List.mem_range.2 (by omega))
    rwa [show 0 + (n - 0) = n by omega] at this
  by_cases h1 : n < 256
  · have := (List.all_eq_true.1 chk1) (n - 128) (List.mem_range.2 (by omega))
    rwa [show 128 + (n - 128) = n by omega] at this
  by_cases h2 : n < 384
  · have := (List.all_eq_true.1 chk2) (n - 256) (List.mem_range.2 (by omega))
    rwa [show 256 + (n - 256) = n by omega] at this
  by_cases h3 : n < 512
  · have := (List.all_eq_true.1 chk3) (n - 384) (List.mem_range.2 (by omega))
    rwa [show 384 + (n - 384) = n by omega] at this
  by_cases h4 : n < 640
  · have := (List.all_eq_true.1 chk4) (n - 512) (List.mem_range.2 (by omega))
    rwa [show 512 + (n - 512) = n by omega] at this
  by_cases h5 : n < 768
  · have := (List.all_eq_true.1 chk5) (n - 640) (List.mem_range.2 (by omega))
    rwa [show 640 + (n - 640) = n by omega] at this
  by_cases h6 : n < 896
  · have := (List.all_eq_true.1 chk6) (n - 768) (List.mem_range.2 (by omega))
    rwa [show 768 + (n - 768) = n by omega] at this
  by_cases h7 : n < 1024
  · have := (List.all_eq_true.1 chk7) (n - 896) (List.mem_range.2 (by omega))
    rwa [show 896 + (n - 896) = n by omega] at this
  omega
end Go.Proofs.Ytjgikfejfglllaa
